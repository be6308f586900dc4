/- The sketch of strings holds the least different hashes. No condition beyond those in the statement. -/
import Derived.Test.YthblifjeecdhcaaKD
import Derived.Test.YthblifjeecdhcaaPx34
import Derived.Test.YthblifjeecdhcaaPx35
namespace Go.Proofs.Ythblifjeecdhcaa.Pure
open Go.RowKit Go.Proofs.Ythblifjeecdhcaa.P Go.Proofs.Ythblifjeecdhcaa.A Go.Proofs.Ythblifjeecdhcaa.Hand Go.Proofs.YthblifjeecdhcaaW.PrintWords Go.Proofs.YthblifjeecdhcaaW.PrintLast Go.Proofs.YthblifjeecdhcaaW.PrintMore Go.Proofs.Ythblifjeecdhcaa.KB
set_option linter.unusedVariables false
theorem hashes_l0 (l : List ByteArray) (hl : l.length ≤ 1000) (hw : ∀ x ∈ l, x.size ≤ 140737488351232) : ∀ (d i : Nat), i + d = l.length → Ev (fun k => lookoutlaw30_hashes.l0 k ((hsh l).take i) l (l.length : Int) (i : Int)) (U [] (hsh l)) := by
  have hh : (hsh l).length = l.length := by simp [hsh]
  intro d
  induction d with
  | zero =>
    intro i h
    rw [List.take_of_length_le (by omega)]
    exact Ev.step (fun k => by rw [lookoutlaw30_hashes.l0, if_neg (by omega), show sort_own.f (hsh l) = some (sortI (hsh l)) by unfold sort_own.f; rw [if_pos (by omega)], Option.bind_some, compact_own.f, Option.bind_some, hashes_is]) (Ev.now _)
  | succ d ih =>
    intro i h
    have hi : i < l.length := by omega
    have e : (hsh l)[i]'(by omega) = HASH l[i] := by simp [hsh]
    refine Ev.step (fun k => by rw [lookoutlaw30_hashes.l0, if_pos (by omega), if_pos (by omega), if_pos (by omega), rdB hi]) ?_
    refine Ev.bind (hash_ev l[i] (hw _ (List.getElem_mem hi))) ?_
    refine Ev.congr (fun k => by rw [if_pos (by rw [List.length_take]; omega), w1 (by omega), ← e, ← List.take_succ_eq_append_getElem (by omega : i < (hsh l).length)]) (ih (i + 1) (by omega))
theorem hashes_ev (l : List ByteArray) (hl : l.length ≤ 1000) (hw : ∀ x ∈ l, x.size ≤ 140737488351232) : Ev (fun k => lookoutlaw30_hashes.f k l) (U [] (hsh l)) := hashes_l0 l hl hw l.length 0 (by omega)
theorem bounds_ev (K C : Int) (H : List Int) (h : OKK K C H) : Ev (fun k => kmv_Bounds.f k K C H) (if (H.length : Int) = K then (K, C, 0) else ((H.length : Int), (H.length : Int), 0)) := by
  have h1 := h.2.2.2.2.1; have h2 := h.2.1
  unfold kmv_Bounds.f
  refine Ev.bind (check_ev K C H (by omega)) ?_
  rw [show CK K C H = 0 from if_pos h]
  refine Ev.congr (fun k => if_pos rfl) ?_
  by_cases c : (H.length : Int) = K
  · rw [if_pos c]; exact Ev.congr (fun k => by rw [kmv_bounds.f, if_pos c, Option.bind_some]) (Ev.now _)
  · rw [if_neg c]; exact Ev.congr (fun k => by rw [kmv_bounds.f, if_neg c, Option.bind_some]) (Ev.now _)
theorem estimate_is (K C : Int) (H : List Int) (h : OKK K C H) : ∃ n : Int, Ev (fun k => kmv_Estimate.f k K C H) (n, 0) ∧ ((H.length : Int) < K → n = (H.length : Int)) ∧ ((H.length : Int) = K → K ≤ n ∧ n ≤ C) := by
  have h1 := h.2.2.2.2.1; have h2 := h.1; have h3 := h.2.1; have h4 := h.2.2.2.2.2.1
  have hce := check_ev K C H (by omega)
  rw [show CK K C H = 0 from if_pos h] at hce
  by_cases hc : (H.length : Int) < K
  · refine ⟨(H.length : Int), ?_, fun _ => rfl, fun h => by omega⟩
    unfold kmv_Estimate.f
    refine Ev.bind hce (Ev.congr (fun k => ?_) (Ev.now _))
    rw [if_pos rfl, kmv_bounds.f, if_neg (by omega), Option.bind_some, estG, if_pos hc]; rfl
  · have hi : H.length - 1 < H.length := by omega
    have hm := h.mem (H[H.length - 1]) (List.getElem_mem hi)
    have hr := rdI hi
    rw [show ((H.length - 1 : Nat) : Int) = (H.length : Int) - 1 by omega] at hr
    refine ⟨mn (mx ((K - 1) * 4294967296 / (rd H ((H.length : Int) - 1) + 1)) K) C, ?_, fun h => absurd h hc, fun _ => ?_⟩
    · unfold kmv_Estimate.f
      refine Ev.bind hce (Ev.congr (fun k => ?_) (Ev.now _))
      rw [if_pos rfl, kmv_bounds.f, if_pos (by omega), Option.bind_some, estG, if_neg hc, if_pos ⟨by omega, by omega, by omega, by omega, by omega⟩, Option.bind_some]
    · generalize (K - 1) * 4294967296 / (rd H ((H.length : Int) - 1) + 1) = v
      unfold mn mx
      repeat' split
      all_goals omega
theorem KmvContents : lookoutlaw30_KmvContents.Pure := by
  intro l a hm hl hw ha
  refine Ev.rounds ?_
  obtain ⟨a0, a1⟩ := u8_wf ha
  obtain ⟨b, hb, hb2⟩ := long_is l
  unfold lookoutlaw30_KmvContents.f
  refine Ev.congr (fun k => by rw [hb, Option.bind_some]) ?_
  cases b with
  | true => exact Ev.congr (fun k => if_pos rfl) awake_end
  | false =>
    have h40 := hb2 rfl
    refine Ev.congr (fun k => if_neg (by simp)) ?_
    have hK : wrap64 (1 + wrap64 a) = 1 + a := by unfold wrap64; omega
    rw [hK]
    generalize hKe : 1 + a = K at *
    have k1 : 1 ≤ K := by omega
    have k2 : K ≤ 1000 := by omega
    have ho := of_all k1 k2 l (by omega)
    have hmg := MG_is (a := []) (n := K.toNat) (by simp) (hsh l)
    have hul := U_len (hsh l) []
    have hhl : (hsh l).length = l.length := by simp [hsh]
    rw [List.length_nil] at hul
    have hlen : (MG K.toNat [] (hsh l)).length = min K.toNat (U [] (hsh l)).length := by rw [hmg, List.length_take]
    obtain ⟨e, he, he1, he2⟩ := estimate_is K (l.length : Int) _ ho
    have hbo := bounds_ev K (l.length : Int) _ ho
    have hck := check_ev K (l.length : Int) (MG K.toNat [] (hsh l)) (by omega)
    rw [show CK K (l.length : Int) (MG K.toNat [] (hsh l)) = 0 from if_pos ho] at hck
    have htk : (U [] (hsh l)).take (mn K ((U [] (hsh l)).length : Int)).toNat = MG K.toNat [] (hsh l) := by
      rw [hmg]
      by_cases c : K ≤ ((U [] (hsh l)).length : Int)
      · rw [show mn K ((U [] (hsh l)).length : Int) = K by unfold mn; split <;> omega]
      · rw [show mn K ((U [] (hsh l)).length : Int) = ((U [] (hsh l)).length : Int) by unfold mn; split <;> omega, List.take_of_length_le (by omega), List.take_of_length_le (by omega)]
    have hmn : 0 ≤ mn K ((U [] (hsh l)).length : Int) ∧ mn K ((U [] (hsh l)).length : Int) ≤ ((U [] (hsh l)).length : Int) := by unfold mn; split <;> omega
    refine Ev.bind (of_ev k1 k2 l (by omega) hw) ?_
    refine Ev.bind (hashes_ev l (by omega) hw) ?_
    generalize hA : U [] (hsh l) = A at *
    generalize hH : MG K.toNat [] (hsh l) = H at *
    refine Ev.bind hbo ?_
    refine Ev.bind he ?_
    have fin : ∀ lo hi : Int, lo ≤ (A.length : Int) → (A.length : Int) ≤ hi → lo ≤ e → e ≤ hi → (e = (A.length : Int) ∨ (A.length : Int) ≥ K) → (lo = (A.length : Int) → hi = (A.length : Int) → True) → (lo ≠ (A.length : Int) ∨ hi ≠ (A.length : Int) → (A.length : Int) ≥ K) →
        Ev (fun k => if lo = (A.length : Int) then (if hi = (A.length : Int) then (if lo ≤ (A.length : Int) then (if (A.length : Int) ≤ hi then (if lo ≤ e then (if e ≤ hi then (if e = (A.length : Int) then ((lookoutlaw30_awake.f k).bind fun t313 => (some t313)) else (if (A.length : Int) ≥ K then ((lookoutlaw30_awake.f k).bind fun t314 => (some t314)) else (none))) else (none)) else (none)) else (none)) else (none)) else (if lo ≤ (A.length : Int) then (if (A.length : Int) ≤ hi then (if lo ≤ e then (if e ≤ hi then (if (A.length : Int) ≥ K then ((lookoutlaw30_awake.f k).bind fun t315 => (some t315)) else (none)) else (none)) else (none)) else (none)) else (none))) else (if lo ≤ (A.length : Int) then (if (A.length : Int) ≤ hi then (if lo ≤ e then (if e ≤ hi then (if (A.length : Int) ≥ K then ((lookoutlaw30_awake.f k).bind fun t316 => (some t316)) else (none)) else (none)) else (none)) else (none)) else (none))) true := by
      intro lo hi q1 q2 q3 q4 q5 _ q6
      by_cases c1 : lo = (A.length : Int)
      · by_cases c2 : hi = (A.length : Int)
        · by_cases c3 : e = (A.length : Int)
          · exact Ev.congr (fun k => by rw [if_pos c1, if_pos c2, if_pos q1, if_pos q2, if_pos q3, if_pos q4, if_pos c3]) awake_end
          · exact Ev.congr (fun k => by rw [if_pos c1, if_pos c2, if_pos q1, if_pos q2, if_pos q3, if_pos q4, if_neg c3, if_pos (q5.resolve_left c3)]) awake_end
        · exact Ev.congr (fun k => by rw [if_pos c1, if_neg c2, if_pos q1, if_pos q2, if_pos q3, if_pos q4, if_pos (q6 (.inr c2))]) awake_end
      · exact Ev.congr (fun k => by rw [if_neg c1, if_pos q1, if_pos q2, if_pos q3, if_pos q4, if_pos (q6 (.inl c1))]) awake_end
    by_cases c : (H.length : Int) = K
    · rw [if_pos c]
      have hest := he2 c
      refine Ev.congr (fun k => by rw [if_pos rfl, if_pos rfl, if_pos rfl, if_pos rfl, if_pos rfl]) ?_
      refine Ev.bind hck ?_
      refine Ev.congr (fun k => by rw [if_pos rfl, if_pos hmn.1, if_pos hmn.2, htk]) ?_
      refine Ev.bind (same01 H (by omega)) ?_
      refine Ev.congr (fun k => if_pos rfl) ?_
      exact fin K (l.length : Int) (by omega) (by omega) hest.1 hest.2 (.inr (by omega)) (fun _ _ => trivial) (fun _ => by omega)
    · rw [if_neg c]
      have hlt : (H.length : Int) < K := by have := ho.2.2.2.2.1; omega
      have hest := he1 hlt
      refine Ev.congr (fun k => by rw [if_pos rfl, if_pos rfl, if_pos rfl, if_pos rfl, if_pos rfl]) ?_
      refine Ev.bind hck ?_
      refine Ev.congr (fun k => by rw [if_pos rfl, if_pos hmn.1, if_pos hmn.2, htk]) ?_
      refine Ev.bind (same01 H (by omega)) ?_
      refine Ev.congr (fun k => if_pos rfl) ?_
      exact fin (H.length : Int) (H.length : Int) (by omega) (by omega) (by omega) (by omega) (.inl (by omega)) (fun _ _ => trivial) (fun h => by omega)
end Go.Proofs.Ythblifjeecdhcaa.Pure
