/- Plain facts on networks: eight steps. No condition beyond those in the statements. -/
import Derived.Test.YtkfplnbofgiknaaK2
import Derived.Test.YtkfplnbofgiknaaPx9
namespace Go.Proofs.Ytkfplnbofgiknaa.NB
open Go.RowKit Go.Proofs.Ytkfplnbofgiknaa.P Go.Proofs.Ytkfplnbofgiknaa.A Go.Proofs.Ytkfplnbofgiknaa.Hand Go.Proofs.YtkfplnbofgiknaaW.PrintWords Go.Proofs.YtkfplnbofgiknaaW.PrintLast Go.Proofs.YtkfplnbofgiknaaW.PrintMore
def FLA (now : Int) (fl : List Fl) (j : Nat) : List Fl := fl.filter fun x => decide (now + (j : Int) < x.f0)
def LA (now : Int) (fl : List Fl) (j : Nat) : List Pk := (yesL (now + (j : Int) + 1) fl).map (·.f1)
def LS (now : Int) (fl : List Fl) (j : Nat) : List (List Pk) := (List.range j).map (LA now fl)
theorem FLA_no (now : Int) (fl : List Fl) (j : Nat) : noL (now + (j : Int) + 1) (FLA now fl j) = FLA now fl (j + 1) := by
  unfold noL FLA
  rw [List.filter_filter]
  refine List.filter_congr (fun x _ => ?_)
  rw [Bool.eq_iff_iff]
  simp only [Bool.and_eq_true, Bool.not_eq_true', decide_eq_true_eq, decide_eq_false_iff_not]
  omega
theorem FLA_yes (now : Int) (fl : List Fl) (j : Nat) : (yesL (now + (j : Int) + 1) (FLA now fl j)).map (·.f1) = LA now fl j := by
  unfold LA
  congr 1
  unfold yesL FLA
  rw [List.filter_filter]
  refine List.filter_congr (fun x _ => ?_)
  rw [Bool.eq_iff_iff]
  simp only [Bool.and_eq_true, decide_eq_true_eq]
  omega
theorem FLA_step {now : Int} {fates : List Int} {fl : List Fl} (h : CK now fates fl = 0) (hm : now ≤ 1152921504606846968) (j : Nat) (hj : j < 8) :
    STEP (now + (j : Int)) fates (FLA now fl j) = (now + ((j + 1 : Nat) : Int), fates, FLA now fl (j + 1), LA now fl j, 0) := by
  obtain ⟨n0, n1, hl, hf, hx, ht⟩ := CK_zero h
  have hck : CK (now + (j : Int)) fates (FLA now fl j) = 0 := CK_of (by omega) (by omega) (Nat.le_trans (List.length_filter_le _ _) hl) hf (fun x hx' => by
    obtain ⟨m1, m2⟩ := List.mem_filter.1 hx'
    simp only [decide_eq_true_eq] at m2
    obtain ⟨b1, b2, b3⟩ := hx x m1
    exact ⟨by omega, by omega, b3⟩) ht
  unfold STEP
  rw [if_pos hck, if_neg (by omega), FLA_no, FLA_yes, show now + (j : Int) + 1 = now + ((j + 1 : Nat) : Int) by omega]
theorem steps_l0 {now : Int} {fates : List Int} {fl : List Fl} (h : CK now fates fl = 0) (hm : now ≤ 1152921504606846968) : ∀ (d j : Nat), j + d = 8 →
    Ev (fun k => lookoutlaw50_steps.l0 k (LS now fl j) 8 (j : Int) (now + (j : Int)) fates (FLA now fl j)) (LS now fl 8, now + ((8 : Nat) : Int), fates, FLA now fl 8, true) := by
  intro d
  induction d with
  | zero => intro j hj; obtain rfl : j = 8 := by omega
            exact Ev.step (fun k => by rw [lookoutlaw50_steps.l0, if_neg (by omega)]) (Ev.now _)
  | succ d ih =>
    intro j hj
    refine Ev.step (fun k => by rw [lookoutlaw50_steps.l0, if_pos (by omega)]) ?_
    refine Ev.bind (step_ev _ _ _) ?_
    rw [FLA_step h hm j (by omega)]
    have hs := ih (j + 1) (by omega)
    have e : LS now fl (j + 1) = LS now fl j ++ [LA now fl j] := by unfold LS; rw [List.range_succ, List.map_append]; rfl
    rw [e] at hs
    refine Ev.congr (fun k => ?_) hs
    rw [if_pos rfl, if_pos (by unfold LS; rw [List.length_map, List.length_range]; omega), w1 (by omega)]
theorem steps_ev {now : Int} {fates : List Int} {fl : List Fl} (h : CK now fates fl = 0) (hm : now ≤ 1152921504606846968) :
    Ev (fun k => lookoutlaw50_steps.f k now fates fl 8) (LS now fl 8, now + ((8 : Nat) : Int), fates, [], true) := by
  have hx := (CK_zero h).2.2.2.2.1
  have h0 : FLA now fl 0 = fl := by
    unfold FLA
    rw [List.filter_eq_self]
    intro x hx'
    have := hx x hx'
    simp only [decide_eq_true_eq]
    omega
  have h8 : FLA now fl 8 = [] := by
    unfold FLA
    rw [List.filter_eq_nil_iff]
    intro x hx'
    have := hx x hx'
    simp only [decide_eq_true_eq]
    omega
  have := steps_l0 h hm 8 0 rfl
  rw [h0, h8] at this
  refine Ev.congr (fun k => ?_) this
  rw [lookoutlaw50_steps.f, show now + ((0 : Nat) : Int) = now by omega]
  rfl
theorem LA_len {now : Int} {fl : List Fl} {j : Nat} (hl : fl.length ≤ 1000) : (LA now fl j).length ≤ 1000 := by
  unfold LA
  rw [List.length_map]
  exact Nat.le_trans (List.length_filter_le _ _) hl
theorem LS_len (now : Int) (fl : List Fl) : (LS now fl 8).length = 8 := by unfold LS; rw [List.length_map, List.length_range]
theorem LS_at (now : Int) (fl : List Fl) {j : Nat} (hj : j < 8) : rd_L7 (LS now fl 8) (j : Int) = LA now fl j := by
  simp [rd_L7, LS, List.getD, hj]
end Go.Proofs.Ytkfplnbofgiknaa.NB
