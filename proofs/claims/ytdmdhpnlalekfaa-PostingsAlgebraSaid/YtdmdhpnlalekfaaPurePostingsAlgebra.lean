/- And and Or are commutative, associative and idempotent, and distribute over each other; taking away one list after the other is taking away both: for lists of up to 40 numbers. No further condition. -/
import Derived.Test.YtdmdhpnlalekfaaKC
namespace Go.Proofs.Ytdmdhpnlalekfaa.Pure
open Go.RowKit Go.Proofs.Ytdmdhpnlalekfaa.B Go.Proofs.Ytdmdhpnlalekfaa.A Go.Proofs.Ytdmdhpnlalekfaa.Hand Go.Proofs.YtdmdhpnlalekfaaW.PrintWords Go.Proofs.YtdmdhpnlalekfaaW.PrintLast Go.Proofs.Ytdmdhpnlalekfaa.VB
theorem comb_valid (g : Bool → Bool → Bool) {a b : List Int} (ha : VL a) (hb : VL b) : VL (combG g (walkL a b)) :=
  ⟨fun x hx => by
    rcases ((comb_mem g ha.2 hb.2 x).1 hx).1 with h | h
    · exact ha.1 x h
    · exact hb.1 x h, comb_sorted g ha.2 hb.2⟩
theorem AN_is {a b : List Int} (ha : VL a) (hb : VL b) : AN a b = combG gAnd (walkL a b) := if_pos ⟨(CK_zero a).2 ha, (CK_zero b).2 hb⟩
theorem OR_is {a b : List Int} (ha : VL a) (hb : VL b) : OR a b = combG gOr (walkL a b) := if_pos ⟨(CK_zero a).2 ha, (CK_zero b).2 hb⟩
theorem WO_is {a b : List Int} (ha : VL a) (hb : VL b) : WO a b = combG gWithout (walkL a b) := if_pos ⟨(CK_zero a).2 ha, (CK_zero b).2 hb⟩
theorem AN_valid {a b : List Int} (ha : VL a) (hb : VL b) : VL (AN a b) := by rw [AN_is ha hb]; exact comb_valid _ ha hb
theorem OR_valid {a b : List Int} (ha : VL a) (hb : VL b) : VL (OR a b) := by rw [OR_is ha hb]; exact comb_valid _ ha hb
theorem WO_valid {a b : List Int} (ha : VL a) (hb : VL b) : VL (WO a b) := by rw [WO_is ha hb]; exact comb_valid _ ha hb
theorem AN_mem {a b : List Int} (ha : VL a) (hb : VL b) (x : Int) : x ∈ AN a b ↔ x ∈ a ∧ x ∈ b := by
  rw [AN_is ha hb, comb_mem _ ha.2 hb.2]
  simp only [gAnd, Bool.and_eq_true, decide_eq_true_eq]
  exact ⟨fun h => h.2, fun h => ⟨.inl h.1, h⟩⟩
theorem OR_mem {a b : List Int} (ha : VL a) (hb : VL b) (x : Int) : x ∈ OR a b ↔ x ∈ a ∨ x ∈ b := by
  rw [OR_is ha hb, comb_mem _ ha.2 hb.2]
  simp only [gOr, Bool.or_eq_true, decide_eq_true_eq]
  exact ⟨fun h => h.1, fun h => ⟨h, h⟩⟩
theorem WO_mem {a b : List Int} (ha : VL a) (hb : VL b) (x : Int) : x ∈ WO a b ↔ x ∈ a ∧ ¬ x ∈ b := by
  rw [WO_is ha hb, comb_mem _ ha.2 hb.2]
  simp only [gWithout, Bool.and_eq_true, decide_eq_true_eq, Bool.not_eq_true', decide_eq_false_iff_not]
  exact ⟨fun h => h.2, fun h => ⟨.inl h.1, h⟩⟩
theorem AN_len (a b : List Int) : (AN a b).length ≤ a.length + b.length := by
  unfold AN; split
  · exact comb_len gAnd a b
  · simp
theorem OR_len (a b : List Int) : (OR a b).length ≤ a.length + b.length := by
  unfold OR; split
  · exact comb_len gOr a b
  · simp
theorem WO_len (a b : List Int) : (WO a b).length ≤ a.length + b.length := by
  unfold WO; split
  · exact comb_len gWithout a b
  · simp
theorem ext {a b : List Int} (ha : VL a) (hb : VL b) (h : ∀ x, x ∈ a ↔ x ∈ b) : a = b := sorted_ext a b ha.2 hb.2 h
theorem algebra_j0 (a b c : List Int) (la : a.length ≤ 40) (lb : b.length ≤ 40) (lc : c.length ≤ 40) (ha : VL a) (hb : VL b) (hc : VL c) : Ev (fun k => lookoutlaw08_PostingsAlgebra.j0 k a b c false) true := by
  have e1 : AN b a = AN a b := ext (AN_valid hb ha) (AN_valid ha hb) (fun x => by rw [AN_mem hb ha, AN_mem ha hb]; exact And.comm)
  have e2 : OR b a = OR a b := ext (OR_valid hb ha) (OR_valid ha hb) (fun x => by rw [OR_mem hb ha, OR_mem ha hb]; exact Or.comm)
  have vab := AN_valid ha hb
  have vbc := AN_valid hb hc
  have vac := AN_valid ha hc
  have oab := OR_valid ha hb
  have obc := OR_valid hb hc
  have oac := OR_valid ha hc
  have wab := WO_valid ha hb
  have e3 : AN (AN a b) c = AN a (AN b c) := ext (AN_valid vab hc) (AN_valid ha vbc) (fun x => by rw [AN_mem vab hc, AN_mem ha vbc, AN_mem ha hb, AN_mem hb hc]; exact and_assoc)
  have e4 : OR (OR a b) c = OR a (OR b c) := ext (OR_valid oab hc) (OR_valid ha obc) (fun x => by rw [OR_mem oab hc, OR_mem ha obc, OR_mem ha hb, OR_mem hb hc]; exact or_assoc)
  have e5 : AN a a = a := ext (AN_valid ha ha) ha (fun x => by rw [AN_mem ha ha]; exact and_self_iff)
  have e6 : OR a a = a := ext (OR_valid ha ha) ha (fun x => by rw [OR_mem ha ha]; exact or_self_iff)
  have e7 : OR (AN a b) (AN a c) = AN a (OR b c) := ext (OR_valid vab vac) (AN_valid ha obc) (fun x => by rw [OR_mem vab vac, AN_mem ha obc, AN_mem ha hb, AN_mem ha hc, OR_mem hb hc]; exact and_or_left.symm)
  have e8 : AN (OR a b) (OR a c) = OR a (AN b c) := ext (AN_valid oab oac) (OR_valid ha vbc) (fun x => by rw [AN_mem oab oac, OR_mem ha vbc, OR_mem ha hb, OR_mem ha hc, AN_mem hb hc]; exact or_and_left.symm)
  have e9 : WO a (OR b c) = WO (WO a b) c := ext (WO_valid ha obc) (WO_valid wab hc) (fun x => by rw [WO_mem ha obc, WO_mem wab hc, WO_mem ha hb, OR_mem hb hc, not_or]; exact and_assoc.symm)
  have l1 := AN_len a b
  have l2 := AN_len b c
  have l3 := AN_len a c
  have l4 := OR_len a b
  have l5 := OR_len b c
  have l6 := OR_len a c
  have l7 := WO_len a b
  refine Ev.step (fun k => by rw [lookoutlaw08_PostingsAlgebra.j0, if_neg (by decide)]) (Ev.bind (and_ev a b (by omega) (by omega)) (Ev.bind (and_ev b a (by omega) (by omega)) ?_))
  rw [e1]
  refine Ev.bind (same8_ev (AN a b) (by omega)) ?_
  simp only [if_true]
  refine Ev.bind (or_ev a b (by omega) (by omega)) (Ev.bind (or_ev b a (by omega) (by omega)) ?_)
  rw [e2]
  refine Ev.bind (same8_ev (OR a b) (by omega)) ?_
  simp only [if_true]
  refine Ev.bind (and_ev b c (by omega) (by omega)) (Ev.bind (and_ev a (AN b c) (by omega) (by omega)) (Ev.bind (and_ev a b (by omega) (by omega)) (Ev.bind (and_ev (AN a b) c (by omega) (by omega)) ?_)))
  rw [e3]
  refine Ev.bind (same8_ev (AN a (AN b c)) (by have := AN_len a (AN b c); omega)) ?_
  simp only [if_true]
  refine Ev.bind (or_ev b c (by omega) (by omega)) (Ev.bind (or_ev a (OR b c) (by omega) (by omega)) (Ev.bind (or_ev a b (by omega) (by omega)) (Ev.bind (or_ev (OR a b) c (by omega) (by omega)) ?_)))
  rw [e4]
  refine Ev.bind (same8_ev (OR a (OR b c)) (by have := OR_len a (OR b c); omega)) ?_
  simp only [if_true]
  refine Ev.bind (and_ev a a (by omega) (by omega)) ?_
  rw [e5]
  refine Ev.bind (same8_ev a (by omega)) ?_
  simp only [if_true]
  refine Ev.bind (or_ev a a (by omega) (by omega)) ?_
  rw [e6]
  refine Ev.bind (same8_ev a (by omega)) ?_
  simp only [if_true]
  refine Ev.bind (or_ev b c (by omega) (by omega)) (Ev.bind (and_ev a (OR b c) (by omega) (by omega)) (Ev.bind (and_ev a b (by omega) (by omega)) (Ev.bind (and_ev a c (by omega) (by omega)) (Ev.bind (or_ev (AN a b) (AN a c) (by omega) (by omega)) ?_))))
  rw [e7]
  refine Ev.bind (same8_ev (AN a (OR b c)) (by have := AN_len a (OR b c); omega)) ?_
  simp only [if_true]
  refine Ev.bind (and_ev b c (by omega) (by omega)) (Ev.bind (or_ev a (AN b c) (by omega) (by omega)) (Ev.bind (or_ev a b (by omega) (by omega)) (Ev.bind (or_ev a c (by omega) (by omega)) (Ev.bind (and_ev (OR a b) (OR a c) (by omega) (by omega)) ?_))))
  rw [e8]
  refine Ev.bind (same8_ev (OR a (AN b c)) (by have := OR_len a (AN b c); omega)) ?_
  simp only [if_true]
  refine Ev.bind (without_ev a b (by omega) (by omega)) (Ev.bind (without_ev (WO a b) c (by omega) (by omega)) (Ev.bind (or_ev b c (by omega) (by omega)) (Ev.bind (without_ev a (OR b c) (by omega) (by omega)) ?_)))
  rw [e9]
  refine Ev.bind (same8_ev (WO (WO a b) c) (by have := WO_len (WO a b) c; omega)) ?_
  simp only [if_true]
  exact awake8b_ev
theorem PostingsAlgebra : lookoutlaw08_PostingsAlgebra.Pure := by
  intro a b c hma hla hwa hmb hlb hwb hmc hlc hwc
  refine Ev.rounds ?_
  have ht : Ev (fun k => lookoutlaw08_PostingsAlgebra.j0 k a b c true) true := Ev.step (fun k => by rw [lookoutlaw08_PostingsAlgebra.j0, if_pos rfl]) awake8b_ev
  simp only [lookoutlaw08_PostingsAlgebra.f, great3, Option.bind_some]
  by_cases h : (decide (40 < a.length) || (decide (40 < b.length) || decide (40 < c.length))) = true
  · simp only [h, if_true]; exact ht
  · have h' := h
    simp only [Bool.or_eq_true, decide_eq_true_eq, not_or, Nat.not_lt] at h'
    simp only [h]
    refine Ev.bind (check_ev a (by omega)) ?_
    by_cases h1 : CK a = 0
    · simp only [h1, if_true]
      refine Ev.bind (check_ev b (by omega)) ?_
      by_cases h2 : CK b = 0
      · simp only [h2, if_true]
        refine Ev.bind (check_ev c (by omega)) ?_
        by_cases h3 : CK c = 0
        · simp only [h3, bne_self_eq_false]
          exact algebra_j0 a b c (by omega) (by omega) (by omega) ((CK_zero a).1 h1) ((CK_zero b).1 h2) ((CK_zero c).1 h3)
        · simp only [bne_iff_ne.2 h3]; exact ht
      · simp only [h2, if_false]; exact ht
    · simp only [h1, if_false]; exact ht
end Go.Proofs.Ytdmdhpnlalekfaa.Pure
