/- Encode of long columns is the reference's. No condition beyond those in the statement. -/
import Derived.Test.YtfklecicddpcjaaK6
import Derived.Test.YtfklecicddpcjaaPx46
namespace Go.Proofs.Ytfklecicddpcjaa.Pure
open Go.RowKit Go.Proofs.Ytfklecicddpcjaa.P Go.Proofs.Ytfklecicddpcjaa.A Go.Proofs.Ytfklecicddpcjaa.Hand Go.Proofs.YtfklecicddpcjaaW.PrintWords Go.Proofs.YtfklecicddpcjaaW.PrintLast Go.Proofs.YtfklecicddpcjaaW.PrintMore Go.Proofs.Ytfklecicddpcjaa.DK Go.Proofs.Ytfklecicddpcjaa.VB
set_option linter.unusedVariables false
theorem long_l1 (x0 : List ByteArray) (x6 : Nat) (x25 : List Int) (x26 x27 : Int) (T : Nat) (hT : T ≤ 2101) : ∀ (n : Nat) (t : Nat) (x5 : List ByteArray), T - t = n → x5.length ≤ 2100 → ∀ {R : Bool}, (∀ y : List ByteArray, y.length ≤ 2100 → Ev (fun k => lookoutlaw10_DictcolLong.l0 k x0 y x25 x26 (wrap64 (x27 + 1))) R) →
    Ev (fun k => lookoutlaw10_DictcolLong.l1 k x0 x5 (x6 : Int) x25 x26 x27 (T : Int) (t : Int)) R := by
  intro n
  induction n with
  | zero =>
    intro t x5 hn h5 R hR
    exact Ev.step (fun k => by rw [lookoutlaw10_DictcolLong.l1, if_neg (by omega)]) (hR x5 h5)
  | succ n ih =>
    intro t x5 hn h5 R hR
    by_cases c1 : (x0.length : Int) > 0
    · by_cases c2 : (x5.length : Int) < 2100
      · have e : Int.tmod (x6 : Int) (x0.length : Int) = ((x6 % x0.length : Nat) : Int) := rfl
        have hlt : x6 % x0.length < x0.length := Nat.mod_lt _ (by omega)
        exact Ev.step (fun k => by rw [lookoutlaw10_DictcolLong.l1, if_pos (by omega), if_pos c1, if_pos c2, if_neg (by omega), e, if_pos (by omega), if_pos (by omega), if_pos (by omega), w1 (by omega)]) (ih (t + 1) _ (by omega) (by simp; omega) hR)
      · exact Ev.step (fun k => by rw [lookoutlaw10_DictcolLong.l1, if_pos (by omega), if_pos c1, if_neg c2, w1 (by omega)]) (ih (t + 1) x5 (by omega) h5 hR)
    · exact Ev.step (fun k => by rw [lookoutlaw10_DictcolLong.l1, if_pos (by omega), if_neg c1, w1 (by omega)]) (ih (t + 1) x5 (by omega) h5 hR)
theorem long_l0 (x0 : List ByteArray) (x25 : List Int) (hx : x25.length ≤ 12) (hw : ∀ x ∈ x25, (Lit.int .u16 x).wf = true) : ∀ (n i : Nat) (x5 : List ByteArray), x25.length - i = n → x5.length ≤ 2100 → Ev (fun k => lookoutlaw10_DictcolLong.l0 k x0 x5 x25 (x25.length : Int) (i : Int)) true := by
  intro n
  induction n with
  | zero =>
    intro i x5 hn h5
    refine Ev.step (fun k => by rw [lookoutlaw10_DictcolLong.l0, if_neg (by omega)]) ?_
    refine Ev.bind (enc_ev x5) (Ev.bind (encRef_ev x5) ?_)
    exact Ev.congr (fun k => by rw [if_pos rfl, if_pos rfl]) awake_end
  | succ n ih =>
    intro i x5 hn h5
    have hlt : i < x25.length := by omega
    have hr : 0 ≤ rd x25 (i : Int) ∧ rd x25 (i : Int) ≤ 65535 := by
      have h := hw x25[i] (List.getElem_mem hlt)
      have e : rd x25 (i : Int) = x25[i] := by simp [rd, List.getD, List.getElem?_eq_getElem hlt]
      rw [e]
      have h1 : IntKind.u16.min = 0 := rfl
      have h2 : IntKind.u16.max = 65535 := rfl
      simp [Lit.wf, h1, h2] at h
      exact ⟨h.1, by omega⟩
    obtain ⟨m, hm⟩ : ∃ m : Nat, rd x25 (i : Int) = m := ⟨(rd x25 (i : Int)).toNat, by omega⟩
    have e : Int.tmod (wrap64 (rd x25 (i : Int))) 2101 = ((m % 2101 : Nat) : Int) := by
      rw [w_in (by omega) (by omega), hm]; rfl
    refine Ev.step (fun k => by rw [lookoutlaw10_DictcolLong.l0, if_pos (by omega), if_pos (by omega), if_pos (by omega), e]) ?_
    have := long_l1 x0 i x25 (x25.length : Int) (i : Int) (m % 2101) (by omega) (m % 2101) 0 x5 (by omega) h5 (R := true) (fun y hy => by rw [w1 (by omega)]; exact ih (i + 1) y (by omega) hy)
    exact this
theorem DictcolLong : lookoutlaw10_DictcolLong.Pure := by
  intro l L hm hl hw hM hL hW
  refine Ev.rounds ?_
  unfold lookoutlaw10_DictcolLong.f
  have hawake : Ev (fun k => lookoutlaw10_DictcolLong.j0 k l L ([] : List ByteArray) true) true := Ev.step (fun k => by rw [lookoutlaw10_DictcolLong.j0, if_pos rfl]) awake_end
  by_cases c : (l.length : Int) > 4
  · exact Ev.congr (fun k => if_pos c) hawake
  · refine Ev.congr (fun k => if_neg c) ?_
    by_cases c2 : (L.length : Int) > 12
    · exact Ev.congr (fun k => if_pos c2) hawake
    · refine Ev.congr (fun k => if_neg c2) ?_
      obtain ⟨b, hb⟩ : ∃ b, contains_dl.f l = some b := ⟨_, rfl⟩
      refine Ev.congr (fun k => by rw [hb, Option.bind_some]) ?_
      cases b with
      | true => exact hawake
      | false =>
        refine Ev.step (fun k => by rw [lookoutlaw10_DictcolLong.j0, if_neg (by simp)]) ?_
        exact long_l0 l L (by omega) hW L.length 0 [] (by simp) (by simp)
end Go.Proofs.Ytfklecicddpcjaa.Pure
