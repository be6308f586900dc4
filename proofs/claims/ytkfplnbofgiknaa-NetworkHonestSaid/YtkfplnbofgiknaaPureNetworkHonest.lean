/- Without fates each packet arrives exactly once, after one tick, and in the order of sending. No condition beyond those in the statement. -/
import Derived.Test.YtkfplnbofgiknaaK2
import Derived.Test.YtkfplnbofgiknaaPx17
namespace Go.Proofs.Ytkfplnbofgiknaa.Pure
open Go.RowKit Go.Proofs.Ytkfplnbofgiknaa.P Go.Proofs.Ytkfplnbofgiknaa.A Go.Proofs.Ytkfplnbofgiknaa.Hand Go.Proofs.YtkfplnbofgiknaaW.PrintWords Go.Proofs.YtkfplnbofgiknaaW.PrintLast Go.Proofs.YtkfplnbofgiknaaW.PrintMore Go.Proofs.Ytkfplnbofgiknaa.NB

def okL (l : List Pk) : List Pk := l.filter fun p => decide (PK p = 0)
theorem ok_take {l : List Pk} {i : Nat} (h : i < l.length) : okL (l.take (i + 1)) = okL (l.take i) ++ (if PK l[i] = 0 then [l[i]] else []) := by
  rw [List.take_succ_eq_append_getElem h]
  unfold okL
  rw [List.filter_append]
  by_cases hc : PK l[i] = 0 <;> simp [hc]
theorem ok_len (l : List Pk) (i : Nat) : (okL (l.take i)).length ≤ i := Nat.le_trans (List.length_filter_le _ _) (List.length_take_le _ _)
theorem ok_mem {l : List Pk} {p : Pk} (h : p ∈ okL l) : PK p = 0 := by simpa [okL] using (List.mem_filter.1 h).2
theorem CK_sent (l : List Pk) (hl : l.length ≤ 30) (hp : ∀ p ∈ l, PK p = 0) : CK 0 [] (l.map fun p => (⟨1, p⟩ : Fl)) = 0 :=
  CK_of (by omega) (by omega) (by rw [List.length_map]; omega) (by simp) (fun x hx => by
    obtain ⟨p, hp', rfl⟩ := List.mem_map.1 hx
    exact ⟨by dsimp only; omega, by dsimp only; omega, hp p hp'⟩) (fun x hx => by cases hx)
theorem honest_l0 (l : List Pk) (hl : l.length ≤ 30) : ∀ (d i : Nat), i + d = l.length → Ev (fun k => lookoutlaw50_NetworkHonest.l0 k (okL (l.take i)) l (l.length : Int) (i : Int) 0 [] ((okL (l.take i)).map fun p => (⟨1, p⟩ : Fl))) true := by
  intro d
  induction d with
  | zero =>
    intro i h
    refine Ev.step (fun k => by rw [lookoutlaw50_NetworkHonest.l0, if_neg (by omega)]) ?_
    have hok := ok_len l i
    have hck := CK_sent (okL (l.take i)) (by omega) (fun p hp => ok_mem hp)
    generalize okL (l.take i) = T at *
    have hy : yesL (0 + 1) (T.map fun p => (⟨1, p⟩ : Fl)) = T.map fun p => (⟨1, p⟩ : Fl) := by
      unfold yesL
      rw [List.filter_eq_self]
      intro x hx
      obtain ⟨p, _, rfl⟩ := List.mem_map.1 hx
      simp
    have hn : noL (0 + 1) (T.map fun p => (⟨1, p⟩ : Fl)) = [] := by
      unfold noL
      rw [List.filter_eq_nil_iff]
      intro x hx
      obtain ⟨p, _, rfl⟩ := List.mem_map.1 hx
      simp
    have hS : STEP 0 [] (T.map fun p => (⟨1, p⟩ : Fl)) = (0 + 1, [], [], T, 0) := by
      unfold STEP
      rw [if_pos hck, if_neg (by omega), hy, hn, List.map_map]
      simp [Function.comp_def]
    refine Ev.bind (step_ev 0 [] (T.map fun p => (⟨1, p⟩ : Fl))) ?_
    rw [hS]
    refine Ev.congr (fun k => if_pos rfl) ?_
    refine Ev.bind (Ev.now (((([] : List Fl).length : Int)) == 0)) ?_
    refine Ev.congr (fun k => if_pos rfl) ?_
    refine Ev.bind (sameP _ (by dsimp only; omega)) ?_
    refine Ev.congr (fun k => if_pos rfl) ?_
    exact awake_end
  | succ d ih =>
    intro i h
    have hi : i < l.length := by omega
    by_cases hsz : (((rd_T27 l (i : Int)).f2).size : Int) > 2000
    · exact Ev.step (fun k => by rw [lookoutlaw50_NetworkHonest.l0, if_pos (by omega), if_pos (by omega), if_pos (by omega), if_pos hsz]) awake_end
    · refine Ev.step (fun k => by rw [lookoutlaw50_NetworkHonest.l0, if_pos (by omega), if_pos (by omega), if_pos (by omega), if_neg hsz]) ?_
      have hok := ok_len l i
      have hck := CK_sent (okL (l.take i)) (by omega) (fun p hp => ok_mem hp)
      have hs := ih (i + 1) (by omega)
      rw [ok_take hi] at hs
      rw [rdP hi]
      generalize okL (l.take i) = T at *
      refine Ev.bind (send_ev 0 [] (T.map fun p => (⟨1, p⟩ : Fl)) _ _ _) ?_
      have ep : (⟨(l[i]).f0, (l[i]).f1, (l[i]).f2⟩ : Pk) = l[i] := rfl
      by_cases hpk : PK l[i] = 0
      · rw [if_pos hpk, List.map_append] at hs
        have hS : SEND 0 [] (T.map fun p => (⟨1, p⟩ : Fl)) ⟨(l[i]).f0, (l[i]).f1, (l[i]).f2⟩ = (0, [], (T.map fun p => (⟨1, p⟩ : Fl)) ++ [⟨1, l[i]⟩], 0) := by
          unfold SEND
          rw [ep, if_pos hck, if_pos hpk]
          have e : sentL 0 (fateL []) l[i] = [⟨1, l[i]⟩] := by
            have hd1 : dlL 1 = [1] := by unfold dlL; rw [if_neg (by omega), if_pos (by decide)]
            have w0 : wrap64 (0 + 1) = 1 := by unfold wrap64; omega
            unfold sentL
            rw [show fateL [] = 1 from rfl, hd1, List.map_cons, w0]; rfl
          rw [e, if_neg (by simp; omega)]
          rfl
        rw [hS]
        refine Ev.congr (fun k => (if_pos rfl).trans (if_pos (by omega))) ?_
        exact Ev.congr (fun k => by rw [w1 (by omega)]; rfl) hs
      · rw [if_neg hpk, List.append_nil] at hs
        have hS : SEND 0 [] (T.map fun p => (⟨1, p⟩ : Fl)) ⟨(l[i]).f0, (l[i]).f1, (l[i]).f2⟩ = (0, [], [], PK l[i]) := by
          unfold SEND
          rw [ep, if_pos hck, if_neg hpk]
        rw [hS]
        refine Ev.congr (fun k => if_neg hpk) ?_
        exact Ev.congr (fun k => by rw [w1 (by omega)]) hs
theorem NetworkHonest : lookoutlaw50_NetworkHonest.Pure := by
  intro l h1 h2 h3
  refine Ev.rounds ?_
  unfold lookoutlaw50_NetworkHonest.f
  by_cases h : (l.length : Int) > 30
  · exact Ev.congr (fun k => if_pos h) awake_end
  · refine Ev.congr (fun k => if_neg h) ?_
    exact honest_l0 l (by omega) l.length 0 (Nat.zero_add _)
end Go.Proofs.Ytkfplnbofgiknaa.Pure
