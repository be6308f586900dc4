/- Plain facts on networks: what Check, Send, Step and Delays of the network chapter and of its reference answer. No condition beyond those in the statements. -/
import Derived.Test.YtkfplnbofgiknaaHStep
import Derived.Test.YtkfplnbofgiknaaWNEv
namespace Go.Proofs.Ytkfplnbofgiknaa.NB
open Go.RowKit Go.Proofs.Ytkfplnbofgiknaa.A Go.Proofs.Ytkfplnbofgiknaa.Hand Go.Proofs.YtkfplnbofgiknaaW.PrintWords Go.Proofs.YtkfplnbofgiknaaW.PrintLast Go.Proofs.YtkfplnbofgiknaaW.PrintMore
set_option linter.unusedVariables false
set_option linter.unusedSimpArgs false
abbrev Pk := S27
abbrev Fl := S44
theorem w1 {i : Nat} (h : i < 140737488355328) : wrap64 ((i : Int) + 1) = ((i + 1 : Nat) : Int) := by unfold wrap64; omega
theorem rdF {l : List Fl} {i : Nat} (h : i < l.length) : rd_T44 l (i : Int) = l[i] := by simp [rd_T44, List.getD, List.getElem?_eq_getElem h]
theorem rdP {l : List Pk} {i : Nat} (h : i < l.length) : rd_T27 l (i : Int) = l[i] := by simp [rd_T27, List.getD, List.getElem?_eq_getElem h]
theorem rdI {l : List Int} {i : Nat} (h : i < l.length) : rd l (i : Int) = l[i] := by simp [rd, List.getD, List.getElem?_eq_getElem h]
/-- Why a packet is not valid. -/
def PK (p : Pk) : Int := if p.f0 < -1 ∨ 15 < p.f0 ∨ p.f1 < -1 ∨ 15 < p.f1 then 2 else if (1048576 : Int) < (p.f2.size : Int) then 4 else 0
theorem pk_ev (a b : Int) (s : ByteArray) : Ev (fun k => network_checkPacket.f k a b s) (PK ⟨a, b, s⟩) := by
  have hf : ∀ k, network_checkPacket.f k a b s = network_checkPacket.l0 k [a, b] 2 0 a b s := fun k => rfl
  refine Ev.congr hf ?_
  have r0 : rd [a, b] 0 = a := rfl
  have r1 : rd [a, b] 1 = b := rfl
  have e0 : wrap64 (0 + 1) = 1 := by unfold wrap64; omega
  have e1 : wrap64 (1 + 1) = 2 := by unfold wrap64; omega
  have hl : (([a, b] : List Int).length : Int) = 2 := rfl
  unfold PK
  dsimp only
  by_cases h0 : a < -1
  · rw [if_pos (.inl h0)]
    exact Ev.step (fun k => by rw [network_checkPacket.l0, if_pos (by omega), if_pos (by omega), if_pos (by rw [hl]; omega), r0, if_pos h0]) (Ev.now _)
  · by_cases h1 : a ≥ 16
    · rw [if_pos (by omega)]
      exact Ev.step (fun k => by rw [network_checkPacket.l0, if_pos (by omega), if_pos (by omega), if_pos (by rw [hl]; omega), r0, if_neg h0, if_pos h1]) (Ev.now _)
    · refine Ev.step (f := fun k => network_checkPacket.l0 k [a, b] 2 1 a b s) (fun k => by rw [network_checkPacket.l0, if_pos (by omega), if_pos (by omega), if_pos (by rw [hl]; omega), r0, if_neg h0, if_neg h1, e0]) ?_
      by_cases h2 : b < -1
      · rw [if_pos (by omega)]
        exact Ev.step (fun k => by rw [network_checkPacket.l0, if_pos (by omega), if_pos (by omega), if_pos (by rw [hl]; omega), r1, if_pos h2]) (Ev.now _)
      · by_cases h3 : b ≥ 16
        · rw [if_pos (by omega)]
          exact Ev.step (fun k => by rw [network_checkPacket.l0, if_pos (by omega), if_pos (by omega), if_pos (by rw [hl]; omega), r1, if_neg h2, if_pos h3]) (Ev.now _)
        · refine Ev.step (f := fun k => network_checkPacket.l0 k [a, b] 2 2 a b s) (fun k => by rw [network_checkPacket.l0, if_pos (by omega), if_pos (by omega), if_pos (by rw [hl]; omega), r1, if_neg h2, if_neg h3, e1]) ?_
          rw [if_neg (by omega)]
          by_cases h4 : (s.size : Int) > 1048576
          · rw [if_pos h4]
            exact Ev.step (fun k => by rw [network_checkPacket.l0, if_neg (by omega), if_pos h4]) (Ev.now _)
          · rw [if_neg h4]
            exact Ev.step (fun k => by rw [network_checkPacket.l0, if_neg (by omega), if_neg h4]) (Ev.now _)
/-- Whether a flight does not fit a time. -/
def badF (now : Int) (x : Fl) : Bool := decide (x.f0 ≤ now) || decide (now + 8 < x.f0) || decide (PK x.f1 ≠ 0)
def badT (x : Int) : Bool := decide (x < 0)
/-- Why a network is not valid. -/
def CK (now : Int) (fates : List Int) (fl : List Fl) : Int := if now < 0 ∨ 1152921504606846976 < now ∨ 1000 < fl.length ∨ 1000 < fates.length ∨ fl.any (badF now) = true ∨ fates.any badT = true then 1 else 0
theorem any_drop {α : Type} {f : α → Bool} {l : List α} {i : Nat} (h : i < l.length) : (l.drop i).any f = (f l[i] || (l.drop (i + 1)).any f) := by rw [List.drop_eq_getElem_cons h, List.any_cons]
theorem ck_l1 (fates : List Int) (h1 : fates.length ≤ 1000) : ∀ (d i : Nat), i + d = fates.length → Ev (fun k => network_Check.l1 k fates (fates.length : Int) (i : Int)) (if (fates.drop i).any badT = true then 1 else 0) := by
  intro d
  induction d with
  | zero => intro i h; rw [List.drop_eq_nil_of_le (by omega)]; exact Ev.step (fun k => by rw [network_Check.l1, if_neg (by omega)]; rfl) (Ev.now _)
  | succ d ih =>
    intro i h
    have hi : i < fates.length := by omega
    rw [any_drop hi]
    by_cases hb : fates[i] < 0
    · rw [if_pos (by simp [badT, hb])]
      exact Ev.step (fun k => by rw [network_Check.l1, if_pos (by omega), if_pos (by omega), if_pos (by omega), rdI hi, if_pos hb]) (Ev.now _)
    · have e : (badT fates[i] || (fates.drop (i + 1)).any badT) = (fates.drop (i + 1)).any badT := by simp [badT, hb]
      rw [e]
      exact Ev.step (fun k => by rw [network_Check.l1, if_pos (by omega), if_pos (by omega), if_pos (by omega), rdI hi, if_neg hb, w1 (by omega)]) (ih (i + 1) (by omega))
theorem ck_l0 (now : Int) (fates : List Int) (fl : List Fl) (n0 : 0 ≤ now) (n1 : now ≤ 1152921504606846976) (h1 : fates.length ≤ 1000) (h2 : fl.length ≤ 1000) : ∀ (d i : Nat), i + d = fl.length → Ev (fun k => network_Check.l0 k fl (fl.length : Int) (i : Int) now fates fl) (if (fl.drop i).any (badF now) = true ∨ fates.any badT = true then 1 else 0) := by
  have w8 : wrap64 (now + 8) = now + 8 := by unfold wrap64; omega
  intro d
  induction d with
  | zero =>
    intro i h
    rw [List.drop_eq_nil_of_le (by omega)]
    have := ck_l1 fates h1 fates.length 0 (by omega)
    rw [List.drop_zero] at this
    simp only [List.any_nil, Bool.false_eq_true, false_or]
    exact Ev.step (fun k => by rw [network_Check.l0, if_neg (by omega)]; rfl) this
  | succ d ih =>
    intro i h
    have hi : i < fl.length := by omega
    rw [any_drop hi]
    by_cases c1 : (fl[i]).f0 ≤ now
    · rw [if_pos (.inl (by simp [badF, c1]))]
      exact Ev.step (fun k => by rw [network_Check.l0, if_pos (by omega), if_pos (by omega), if_pos (by omega), rdF hi, if_pos c1]) (Ev.now _)
    · by_cases c2 : (fl[i]).f0 > now + 8
      · rw [if_pos (.inl (by simp [badF]; omega))]
        exact Ev.step (fun k => by rw [network_Check.l0, if_pos (by omega), if_pos (by omega), if_pos (by omega), rdF hi, if_neg c1, w8, if_pos c2]) (Ev.now _)
      · refine Ev.step (f := fun k => (network_checkPacket.f k (fl[i]).f1.f0 (fl[i]).f1.f1 (fl[i]).f1.f2).bind fun t => (if t = 0 then (network_Check.l0 k fl (fl.length : Int) ((i + 1 : Nat) : Int) now fates fl) else (some 1))) (fun k => by rw [network_Check.l0, if_pos (by omega), if_pos (by omega), if_pos (by omega), rdF hi, if_neg c1, w8, if_neg c2, w1 (by omega)]) ?_
        refine Ev.bind (pk_ev _ _ _) ?_
        have ep : PK ⟨(fl[i]).f1.f0, (fl[i]).f1.f1, (fl[i]).f1.f2⟩ = PK (fl[i]).f1 := rfl
        rw [ep]
        by_cases c3 : PK (fl[i]).f1 = 0
        · have e : (badF now fl[i] || (fl.drop (i + 1)).any (badF now)) = (fl.drop (i + 1)).any (badF now) := by simp [badF, c1, c3]; omega
          rw [e]
          exact Ev.congr (fun k => by rw [if_pos c3]) (ih (i + 1) (by omega))
        · rw [if_pos (.inl (by simp [badF, c3]))]
          exact Ev.congr (fun k => by rw [if_neg c3]) (Ev.now _)
theorem check_ev (now : Int) (fates : List Int) (fl : List Fl) : Ev (fun k => network_Check.f k now fates fl) (CK now fates fl) := by
  have ht : Ev (fun k => network_Check.j0 k true now fates fl) 1 := Ev.step (fun k => by rw [network_Check.j0, if_pos rfl]) (Ev.now _)
  unfold CK
  by_cases h0 : now < 0
  · rw [if_pos (.inl h0)]; exact Ev.congr (fun k => by rw [network_Check.f, if_pos h0]) ht
  · by_cases h1 : now > 1152921504606846976
    · rw [if_pos (.inr (.inl h1))]; exact Ev.congr (fun k => by rw [network_Check.f, if_neg h0, if_pos h1]) ht
    · by_cases h2 : (fl.length : Int) > 1000
      · rw [if_pos (.inr (.inr (.inl (by omega))))]; exact Ev.congr (fun k => by rw [network_Check.f, if_neg h0, if_neg h1, if_pos h2]) ht
      · refine Ev.congr (f := fun k => network_Check.j0 k (decide ((fates.length : Int) > 1000)) now fates fl) (fun k => by rw [network_Check.f, if_neg h0, if_neg h1, if_neg h2]) ?_
        by_cases h3 : (fates.length : Int) > 1000
        · rw [if_pos (.inr (.inr (.inr (.inl (by omega))))), decide_eq_true h3]; exact ht
        · rw [decide_eq_false h3]
          have := ck_l0 now fates fl (by omega) (by omega) (by omega) (by omega) fl.length 0 (by omega)
          rw [List.drop_zero] at this
          have e : (now < 0 ∨ 1152921504606846976 < now ∨ 1000 < fl.length ∨ 1000 < fates.length ∨ fl.any (badF now) = true ∨ fates.any badT = true) ↔ (fl.any (badF now) = true ∨ fates.any badT = true) := by
            constructor
            · rintro (h | h | h | h | h)
              · omega
              · omega
              · omega
              · omega
              · exact h
            · intro h; exact .inr (.inr (.inr (.inr h)))
          simp only [e]
          exact Ev.step (fun k => by rw [network_Check.j0, if_neg (by simp)]; rfl) this
theorem CK_zero {now : Int} {fates : List Int} {fl : List Fl} (h : CK now fates fl = 0) : 0 ≤ now ∧ now ≤ 1152921504606846976 ∧ fl.length ≤ 1000 ∧ fates.length ≤ 1000 ∧ (∀ x ∈ fl, now < x.f0 ∧ x.f0 ≤ now + 8 ∧ PK x.f1 = 0) ∧ (∀ x ∈ fates, 0 ≤ x) := by
  unfold CK at h
  split at h
  · cases h
  · rename_i hn
    simp only [not_or, List.any_eq_true, not_exists, not_and, badF, badT, Bool.or_eq_true, decide_eq_true_eq] at hn
    obtain ⟨a1, a2, a3, a4, a5, a6⟩ := hn
    refine ⟨by omega, by omega, by omega, by omega, fun x hx => ?_, fun x hx => by have := a6 x hx; omega⟩
    obtain ⟨⟨b1, b2⟩, b3⟩ := a5 x hx
    exact ⟨by omega, by omega, Decidable.not_not.1 b3⟩
theorem CK_of {now : Int} {fates : List Int} {fl : List Fl} (a1 : 0 ≤ now) (a2 : now ≤ 1152921504606846976) (a3 : fl.length ≤ 1000) (a4 : fates.length ≤ 1000) (a5 : ∀ x ∈ fl, now < x.f0 ∧ x.f0 ≤ now + 8 ∧ PK x.f1 = 0) (a6 : ∀ x ∈ fates, 0 ≤ x) : CK now fates fl = 0 := by
  unfold CK
  rw [if_neg]
  simp only [not_or, List.any_eq_true, not_exists, not_and, badF, badT, Bool.or_eq_true, decide_eq_true_eq]
  refine ⟨by omega, by omega, by omega, by omega, fun x hx => ?_, fun x hx => by have := a6 x hx; omega⟩
  obtain ⟨b1, b2, b3⟩ := a5 x hx
  exact ⟨⟨by omega, by omega⟩, fun h => h b3⟩

/-- What Send returns. -/
def SEND (now : Int) (fates : List Int) (fl : List Fl) (p : Pk) : Int × List Int × List Fl × Int :=
  if CK now fates fl = 0 then (if PK p = 0 then (if 1000 < (fl ++ sentL now (fateL fates) p).length then (0, [], [], 18) else (now, fates.drop 1, fl ++ sentL now (fateL fates) p, 0)) else (0, [], [], PK p)) else (0, [], [], 1)
theorem send_ev (now : Int) (fates : List Int) (fl : List Fl) (a b : Int) (s : ByteArray) : Ev (fun k => network_Send.f k now fates fl a b s) (SEND now fates fl ⟨a, b, s⟩) := by
  unfold network_Send.f SEND
  refine Ev.bind (check_ev now fates fl) ?_
  by_cases h : CK now fates fl = 0
  · rw [if_pos h]
    refine Ev.congr (fun k => if_pos h) ?_
    refine Ev.bind (pk_ev a b s) ?_
    by_cases hp : PK ⟨a, b, s⟩ = 0
    · rw [if_pos hp, if_pos hp]
      have := (CK_zero h).2.2.1
      rw [if_pos (by omega)]
      by_cases hc : 1000 < (fl ++ sentL now (fateL fates) ⟨a, b, s⟩).length
      · rw [if_pos hc, if_pos hc]; exact Ev.now _
      · rw [if_neg hc, if_neg hc]; exact Ev.now _
    · rw [if_neg hp, if_neg hp]
      exact Ev.now _
  · rw [if_neg h]
    exact Ev.congr (fun k => if_neg h) (Ev.now _)
/-- What Step returns. -/
def STEP (now : Int) (fates : List Int) (fl : List Fl) : Int × List Int × List Fl × List Pk × Int :=
  if CK now fates fl = 0 then (if now = 1152921504606846976 then (0, [], [], [], 4) else (now + 1, fates, noL (now + 1) fl, (yesL (now + 1) fl).map (·.f1), 0)) else (0, [], [], [], 1)
theorem step_ev (now : Int) (fates : List Int) (fl : List Fl) : Ev (fun k => network_Step.f k now fates fl) (STEP now fates fl) := by
  unfold network_Step.f STEP
  refine Ev.bind (check_ev now fates fl) ?_
  by_cases h : CK now fates fl = 0
  · obtain ⟨n0, n1, hl, _⟩ := CK_zero h
    rw [if_pos h, if_pos h]
    by_cases hm : now = 1152921504606846976
    · rw [if_pos hm, if_pos hm]; exact Ev.now _
    · have w9 : wrap64 (now + 1) = now + 1 := by unfold wrap64; omega
      rw [if_neg hm, if_neg hm, if_pos (by omega), w9]; exact Ev.now _
  · rw [if_neg h, if_neg h]
    exact Ev.now _
end Go.Proofs.Ytkfplnbofgiknaa.NB
