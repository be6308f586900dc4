/- Step of the network chapter delivers each flight at its own time, and after eight steps nothing is under way. No condition beyond those in the statement. -/
import Derived.Test.YtkfplnbofgiknaaK2
import Derived.Test.YtkfplnbofgiknaaPx12
namespace Go.Proofs.Ytkfplnbofgiknaa.Pure
open Go.RowKit Go.Proofs.Ytkfplnbofgiknaa.P Go.Proofs.Ytkfplnbofgiknaa.A Go.Proofs.Ytkfplnbofgiknaa.Hand Go.Proofs.YtkfplnbofgiknaaW.PrintWords Go.Proofs.YtkfplnbofgiknaaW.PrintLast Go.Proofs.YtkfplnbofgiknaaW.PrintMore Go.Proofs.Ytkfplnbofgiknaa.NB

def FLA (now : Int) (fl : List Fl) (j : Nat) : List Fl := fl.filter fun x => decide (now + (j : Int) < x.f0)
def LA (now : Int) (fl : List Fl) (j : Nat) : List Pk := (yesL (now + (j : Int) + 1) fl).map (·.f1)
def LS (now : Int) (fl : List Fl) (j : Nat) : List (List Pk) := (List.range j).map (LA now fl)
theorem FLA_no (now : Int) (fl : List Fl) (j : Nat) : noL (now + (j : Int) + 1) (FLA now fl j) = FLA now fl (j + 1) := by
  unfold noL FLA
  rw [List.filter_filter]
  refine List.filter_congr (fun x _ => ?_)
  rw [Bool.eq_iff_iff]
  simp only [Bool.and_eq_true, Bool.not_eq_true', decide_eq_true_eq, decide_eq_false_iff_not]
  omega
theorem FLA_yes (now : Int) (fl : List Fl) (j : Nat) : (yesL (now + (j : Int) + 1) (FLA now fl j)).map (·.f1) = LA now fl j := by
  unfold LA
  congr 1
  unfold yesL FLA
  rw [List.filter_filter]
  refine List.filter_congr (fun x _ => ?_)
  rw [Bool.eq_iff_iff]
  simp only [Bool.and_eq_true, decide_eq_true_eq]
  omega
theorem FLA_step {now : Int} {fates : List Int} {fl : List Fl} (h : CK now fates fl = 0) (hm : now ≤ 1152921504606846968) (j : Nat) (hj : j < 8) :
    STEP (now + (j : Int)) fates (FLA now fl j) = (now + ((j + 1 : Nat) : Int), fates, FLA now fl (j + 1), LA now fl j, 0) := by
  obtain ⟨n0, n1, hl, hf, hx, ht⟩ := CK_zero h
  have hck : CK (now + (j : Int)) fates (FLA now fl j) = 0 := CK_of (by omega) (by omega) (Nat.le_trans (List.length_filter_le _ _) hl) hf (fun x hx' => by
    obtain ⟨m1, m2⟩ := List.mem_filter.1 hx'
    simp only [decide_eq_true_eq] at m2
    obtain ⟨b1, b2, b3⟩ := hx x m1
    exact ⟨by omega, by omega, b3⟩) ht
  unfold STEP
  rw [if_pos hck, if_neg (by omega), FLA_no, FLA_yes, show now + (j : Int) + 1 = now + ((j + 1 : Nat) : Int) by omega]
theorem steps_l0 {now : Int} {fates : List Int} {fl : List Fl} (h : CK now fates fl = 0) (hm : now ≤ 1152921504606846968) : ∀ (d j : Nat), j + d = 8 →
    Ev (fun k => lookoutlaw50_steps.l0 k (LS now fl j) 8 (j : Int) (now + (j : Int)) fates (FLA now fl j)) (LS now fl 8, now + ((8 : Nat) : Int), fates, FLA now fl 8, true) := by
  intro d
  induction d with
  | zero => intro j hj; obtain rfl : j = 8 := by omega
            exact Ev.step (fun k => by rw [lookoutlaw50_steps.l0, if_neg (by omega)]) (Ev.now _)
  | succ d ih =>
    intro j hj
    refine Ev.step (fun k => by rw [lookoutlaw50_steps.l0, if_pos (by omega)]) ?_
    refine Ev.bind (step_ev _ _ _) ?_
    rw [FLA_step h hm j (by omega)]
    have hs := ih (j + 1) (by omega)
    have e : LS now fl (j + 1) = LS now fl j ++ [LA now fl j] := by unfold LS; rw [List.range_succ, List.map_append]; rfl
    rw [e] at hs
    refine Ev.congr (fun k => ?_) hs
    rw [if_pos rfl, if_pos (by unfold LS; rw [List.length_map, List.length_range]; omega), w1 (by omega)]
theorem steps_ev {now : Int} {fates : List Int} {fl : List Fl} (h : CK now fates fl = 0) (hm : now ≤ 1152921504606846968) :
    Ev (fun k => lookoutlaw50_steps.f k now fates fl 8) (LS now fl 8, now + ((8 : Nat) : Int), fates, [], true) := by
  have hx := (CK_zero h).2.2.2.2.1
  have h0 : FLA now fl 0 = fl := by
    unfold FLA
    rw [List.filter_eq_self]
    intro x hx'
    have := hx x hx'
    simp only [decide_eq_true_eq]
    omega
  have h8 : FLA now fl 8 = [] := by
    unfold FLA
    rw [List.filter_eq_nil_iff]
    intro x hx'
    have := hx x hx'
    simp only [decide_eq_true_eq]
    omega
  have := steps_l0 h hm 8 0 rfl
  rw [h0, h8] at this
  refine Ev.congr (fun k => ?_) this
  rw [lookoutlaw50_steps.f, show now + ((0 : Nat) : Int) = now by omega]
  rfl
theorem LA_len {now : Int} {fl : List Fl} {j : Nat} (hl : fl.length ≤ 1000) : (LA now fl j).length ≤ 1000 := by
  unfold LA
  rw [List.length_map]
  exact Nat.le_trans (List.length_filter_le _ _) hl
theorem ends_l1 (now : Int) (fates : List Int) (fl : List Fl) (n0 : 0 ≤ now) (n1 : now ≤ 1152921504606846968) (hl : fl.length ≤ 1000) (L : List (List Pk)) (m : Int) (j : Nat) (hj : j < 8)
    (next : Ev (fun k => lookoutlaw50_NetworkEnds.l0 k L m ((j + 1 : Nat) : Int) now fates fl) true) : ∀ (d i : Nat), i + d = fl.length →
    Ev (fun k => lookoutlaw50_NetworkEnds.l1 k (j : Int) (LA now fl j) ((yesL (now + (j : Int) + 1) (fl.take i)).map (·.f1)) L m (j : Int) fl (fl.length : Int) (i : Int) now fates fl) true := by
  have w : wrap64 (wrap64 (now + (j : Int)) + 1) = now + (j : Int) + 1 := by
    rw [show wrap64 (now + (j : Int)) = now + (j : Int) by unfold wrap64; omega]; unfold wrap64; omega
  intro d
  induction d with
  | zero =>
    intro i h
    rw [List.take_of_length_le (by omega)]
    refine Ev.step (fun k => by rw [lookoutlaw50_NetworkEnds.l1, if_neg (by omega)]) ?_
    refine Ev.bind (sameP _ ?_) ?_
    · have := @LA_len now fl j hl; omega
    · exact Ev.congr (fun k => by rw [if_pos rfl, w1 (by omega)]) next
  | succ d ih =>
    intro i h
    have hi : i < fl.length := by omega
    have hs := ih (i + 1) (by omega)
    rw [yes_take hi] at hs
    have b1 := yes_len (now + (j : Int) + 1) fl i
    by_cases hc : (rd_T44 fl (i : Int)).f0 = now + (j : Int) + 1
    · rw [if_pos hc, List.map_append] at hs
      refine Ev.step (fun k => ?_) hs
      rw [lookoutlaw50_NetworkEnds.l1, if_pos (by omega), if_pos (by omega), if_pos (by omega), w, if_pos hc, if_pos (by rw [List.length_map]; omega), w1 (by omega)]
      rfl
    · rw [if_neg hc, List.append_nil] at hs
      refine Ev.step (fun k => ?_) hs
      rw [lookoutlaw50_NetworkEnds.l1, if_pos (by omega), if_pos (by omega), if_pos (by omega), w, if_neg hc, w1 (by omega)]
theorem LS_len (now : Int) (fl : List Fl) : (LS now fl 8).length = 8 := by unfold LS; rw [List.length_map, List.length_range]
theorem LS_at (now : Int) (fl : List Fl) {j : Nat} (hj : j < 8) : rd_L7 (LS now fl 8) (j : Int) = LA now fl j := by
  simp [rd_L7, LS, List.getD, hj]
theorem ends_l0 (now : Int) (fates : List Int) (fl : List Fl) (n0 : 0 ≤ now) (n1 : now ≤ 1152921504606846968) (hl : fl.length ≤ 1000) : ∀ (d j : Nat), j + d = 8 →
    Ev (fun k => lookoutlaw50_NetworkEnds.l0 k (LS now fl 8) ((LS now fl 8).length : Int) (j : Int) now fates fl) true := by
  have hL := LS_len now fl
  intro d
  induction d with
  | zero => intro j h; exact Ev.step (fun k => by rw [lookoutlaw50_NetworkEnds.l0, if_neg (by omega)]) awake_end
  | succ d ih =>
    intro j h
    refine Ev.step (fun k => ?_) (ends_l1 now fates fl n0 n1 hl (LS now fl 8) ((LS now fl 8).length : Int) j (by omega) (ih (j + 1) (by omega)) fl.length 0 (by omega))
    rw [lookoutlaw50_NetworkEnds.l0, if_pos (by omega), if_pos (by omega), if_pos (by omega), LS_at now fl (by omega)]
    rfl
theorem NetworkEnds : lookoutlaw50_NetworkEnds.Pure := by
  intro now fates fl hn h1 h1b h1w h2 h2b h2w
  refine Ev.rounds ?_
  unfold lookoutlaw50_NetworkEnds.f
  have ht : Ev (fun k => lookoutlaw50_NetworkEnds.j0 k true now fates fl) true := Ev.step (fun k => by rw [lookoutlaw50_NetworkEnds.j0, if_pos rfl]) awake_end
  obtain ⟨g, hg⟩ := great_ex now fates fl
  refine Ev.bind hg ?_
  cases g with
  | true => exact Ev.congr (fun k => if_pos rfl) ht
  | false =>
    refine Ev.congr (fun k => if_neg (by simp)) ?_
    refine Ev.bind (check_ev now fates fl) ?_
    by_cases h : CK now fates fl = 0
    · refine Ev.congr (fun k => if_pos h) ?_
      by_cases hm : now > 1152921504606846968
      · rw [decide_eq_true hm]; exact ht
      · rw [decide_eq_false hm]
        obtain ⟨n0, n1, hl, _⟩ := CK_zero h
        refine Ev.step (fun k => by rw [lookoutlaw50_NetworkEnds.j0, if_neg (by simp)]) ?_
        refine Ev.bind (steps_ev h (by omega)) ?_
        refine Ev.congr (f := fun k => lookoutlaw50_NetworkEnds.j1 k (LS now fl 8) false now fates fl) (fun k => ?_) ?_
        · rw [if_pos rfl]; rfl
        · exact Ev.step (fun k => by rw [lookoutlaw50_NetworkEnds.j1, if_neg (by simp)]; rfl) (ends_l0 now fates fl n0 (by omega) hl 8 0 rfl)
    · exact Ev.congr (fun k => if_neg h) ht
end Go.Proofs.Ytkfplnbofgiknaa.Pure
