/- Plain facts on networks: equal networks and packets are told equal, and the chapter's example. No condition beyond those in the statements. -/
import Derived.Test.YtkfplnbofgiknaaK1
import Derived.Test.YtkfplnbofgiknaaPx5
import Derived.Test.YtkfplnbofgiknaaPx3
import Derived.Test.YtkfplnbofgiknaaPx10
namespace Go.Proofs.Ytkfplnbofgiknaa.NB
open Go.RowKit Go.Proofs.Ytkfplnbofgiknaa.P Go.Proofs.Ytkfplnbofgiknaa.A Go.Proofs.Ytkfplnbofgiknaa.Hand Go.Proofs.YtkfplnbofgiknaaW.PrintWords Go.Proofs.YtkfplnbofgiknaaW.PrintLast Go.Proofs.YtkfplnbofgiknaaW.PrintMore
set_option linter.unusedVariables false
set_option linter.unusedSimpArgs false
theorem same01_l0 (l : List Int) (hl : l.length < 140737488355328) : ∀ (d i : Nat), i + d = l.length → Ev (fun k => lookoutref01_Same.l0 k l l (i : Int)) true := by
  intro d
  induction d with
  | zero => intro i h; exact Ev.step (fun k => by rw [lookoutref01_Same.l0, if_neg (by omega)]) (Ev.now _)
  | succ d ih =>
    intro i h
    exact Ev.step (fun k => by rw [lookoutref01_Same.l0, if_pos (by omega), if_pos (by omega), if_pos (by omega), if_pos rfl, w1 (by omega)]) (ih (i + 1) (by omega))
theorem same01 (l : List Int) (hl : l.length < 140737488355328) : Ev (fun k => lookoutref01_Same.f k l l) true :=
  Ev.congr (fun k => by rw [lookoutref01_Same.f, if_pos rfl]; rfl) (same01_l0 l hl l.length 0 (by omega))
theorem great_l0 (n : Int) (f : List Int) (l : List Fl) : ∀ (d i : Nat) (s : Int), i + d = 61 → ∃ b, Ev (fun k => lookoutref50_Great.l0 k s (i : Int) n f l) b := by
  have hfalse : ∀ (s : Int) (i : Nat), ∃ b, Ev (fun k => lookoutref50_Great.j1 k s (i : Int) false n f l) b := by
    intro s i
    by_cases h1 : (l.length : Int) > 60
    · exact ⟨true, Ev.step (fun k => by rw [lookoutref50_Great.j1, if_neg (by simp), if_pos h1]) (Ev.now _)⟩
    · by_cases h2 : (f.length : Int) > 60
      · exact ⟨true, Ev.step (fun k => by rw [lookoutref50_Great.j1, if_neg (by simp), if_neg h1, if_pos h2]) (Ev.now _)⟩
      · exact ⟨_, Ev.step (fun k => by rw [lookoutref50_Great.j1, if_neg (by simp), if_neg h1, if_neg h2]) (Ev.now _)⟩
  intro d
  induction d with
  | zero =>
    intro i s h
    obtain ⟨b, hb⟩ := hfalse s i
    refine ⟨b, ?_⟩
    by_cases hl : (i : Int) < (l.length : Int)
    · exact Ev.step (fun k => by rw [lookoutref50_Great.l0, if_pos hl, decide_eq_false (by omega)]) hb
    · exact Ev.step (fun k => by rw [lookoutref50_Great.l0, if_neg hl]) hb
  | succ d ih =>
    intro i s h
    by_cases hl : (i : Int) < (l.length : Int)
    · by_cases hs : ((rd_T44 l (i : Int)).f1.f2.size : Int) > 2000
      · exact ⟨true, Ev.step (fun k => by rw [lookoutref50_Great.l0, if_pos hl, decide_eq_true (by omega)]) (Ev.step (fun k => by rw [lookoutref50_Great.j1, if_pos rfl, if_pos (by omega), if_pos hl, if_pos hs]) (Ev.now _))⟩
      · obtain ⟨b, hb⟩ := ih (i + 1) (wrap64 (s + ((rd_T44 l (i : Int)).f1.f2.size : Int))) (by omega)
        exact ⟨b, Ev.step (fun k => by rw [lookoutref50_Great.l0, if_pos hl, decide_eq_true (by omega)]) (Ev.step (fun k => by rw [lookoutref50_Great.j1, if_pos rfl, if_pos (by omega), if_pos hl, if_neg hs, w1 (by omega)]) hb)⟩
    · obtain ⟨b, hb⟩ := hfalse s i
      exact ⟨b, Ev.step (fun k => by rw [lookoutref50_Great.l0, if_neg hl]) hb⟩
theorem great_ex (n : Int) (f : List Int) (l : List Fl) : ∃ b, Ev (fun k => lookoutref50_Great.f k n f l) b := great_l0 n f l 61 0 0 rfl
theorem awake_ev : Ev (fun k => lookoutlaw50_awake.f k) true := by
  unfold lookoutlaw50_awake.f
  have hpk : PK ⟨-1, 2, ⟨#[120]⟩⟩ = 0 := by
    unfold PK
    dsimp only
    rw [if_neg (by omega), if_neg (by show ¬ (1048576 : Int) < ((1 : Nat) : Int); omega)]
  have hd1 : dlL 1 = [1] := by unfold dlL; rw [if_neg (by omega), if_pos (by decide)]
  have w6 : wrap64 (5 + 1) = 6 := by unfold wrap64; omega
  have e1 : SEND 5 [] [] ⟨-1, 2, ⟨#[120]⟩⟩ = (5, [], [⟨6, ⟨-1, 2, ⟨#[120]⟩⟩⟩], 0) := by
    unfold SEND
    rw [if_pos (CK_of (by omega) (by omega) (by simp) (by simp) (fun x hx => by cases hx) (fun x hx => by cases hx)), if_pos hpk]
    have e : sentL 5 (fateL []) ⟨-1, 2, ⟨#[120]⟩⟩ = [⟨6, ⟨-1, 2, ⟨#[120]⟩⟩⟩] := by
      unfold sentL
      rw [show fateL [] = 1 from rfl, hd1, List.map_cons, w6]; rfl
    rw [e, if_neg (by simp)]
    rfl
  have e2 : STEP 5 [] [⟨6, ⟨-1, 2, ⟨#[120]⟩⟩⟩] = (6, [], [], [⟨-1, 2, ⟨#[120]⟩⟩], 0) := by
    unfold STEP
    rw [if_pos (CK_of (by omega) (by omega) (by simp) (by simp) (fun x hx => by
      obtain rfl := List.mem_singleton.1 hx
      exact ⟨by dsimp only; omega, by dsimp only; omega, hpk⟩) (fun x hx => by cases hx)), if_neg (by omega)]
    rfl
  refine Ev.bind (send_ev 5 [] [] (-1) 2 ⟨#[120]⟩) ?_
  rw [e1]
  refine Ev.bind (step_ev 5 [] [⟨6, ⟨-1, 2, ⟨#[120]⟩⟩⟩]) ?_
  rw [e2]
  have hd0 : dlL 0 = [] := rfl
  have hd7 : dlL 7 = [1, 2] := by
    unfold dlL lateL
    rw [if_neg (by omega), if_neg (by decide), if_neg (by decide), if_pos (by decide), show Int.tdiv 7 4 = 1 by decide, show wrap64 1 = 1 by unfold wrap64; omega, show Int.tmod 1 8 = 1 by decide, show wrap64 (1 + 1) = 2 by unfold wrap64; omega]
  have hs := same01 [1, 2] (by decide)
  refine Ev.congr (f := fun k => (lookoutref01_Same.f k [1, 2] [1, 2]).bind fun t140 => (some t140)) (fun k => ?_) (Ev.bind hs (Ev.now _))
  have ht : (⟨#[120]⟩ : ByteArray).toList = [120] := by rw [Go.ByteArray.toList_eq]
  have hr : rd_T27 [⟨-1, 2, ⟨#[120]⟩⟩] 0 = ⟨-1, 2, ⟨#[120]⟩⟩ := rfl
  simp [network_Delays.f, network_Idle.f, hd0, hd7, hr, ht]
/-- The end of a statement: the chapter's example. -/
theorem awake_end : Ev (fun k => (lookoutlaw50_awake.f k).bind fun t => (some t)) true := Ev.bind awake_ev (Ev.now _)
theorem SEND_len (now : Int) (fates : List Int) (fl : List Fl) (p : Pk) : (SEND now fates fl p).2.1.length ≤ fates.length ∧ (SEND now fates fl p).2.2.1.length ≤ 1000 := by
  unfold SEND
  split
  · split
    · split
      · simp
      · rename_i hc
        exact ⟨by simp, by dsimp only; omega⟩
    · simp
  · simp
theorem STEP_len (now : Int) (fates : List Int) (fl : List Fl) : (STEP now fates fl).2.1.length ≤ fates.length ∧ (STEP now fates fl).2.2.1.length ≤ 1000 ∧ (STEP now fates fl).2.2.2.1.length ≤ 1000 := by
  unfold STEP
  split
  · rename_i h
    have hl := (CK_zero h).2.2.1
    split
    · simp
    · exact ⟨Nat.le_refl _, Nat.le_trans (List.length_filter_le _ _) hl, by rw [List.length_map]; exact Nat.le_trans (List.length_filter_le _ _) hl⟩
  · simp
end Go.Proofs.Ytkfplnbofgiknaa.NB
