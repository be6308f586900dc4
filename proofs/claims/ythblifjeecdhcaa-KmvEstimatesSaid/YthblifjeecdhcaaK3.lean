/- Plain facts on sketches: what Check, with and Add of the reference answer. No condition beyond those in the statements. -/
import Derived.Test.YthblifjeecdhcaaK
import Derived.Test.YthblifjeecdhcaaPx14
import Derived.Test.YthblifjeecdhcaaPx15
import Derived.Test.YthblifjeecdhcaaPx16
namespace Go.Proofs.Ythblifjeecdhcaa.KB
open Go.RowKit Go.Proofs.Ythblifjeecdhcaa.A Go.Proofs.Ythblifjeecdhcaa.P Go.Proofs.Ythblifjeecdhcaa.Hand Go.Proofs.YthblifjeecdhcaaW.PrintWords Go.Proofs.YthblifjeecdhcaaW.PrintLast Go.Proofs.YthblifjeecdhcaaW.PrintMore
set_option linter.unusedVariables false
set_option linter.unusedSimpArgs false
def prevOf (l : List Int) (i : Nat) : Int := if i = 0 then -1 else rd l ((i : Int) - 1)
theorem prevOf_succ {l : List Int} {i : Nat} (h : i < l.length) : prevOf l (i + 1) = l[i] := by unfold prevOf; rw [if_neg (by omega), show ((i + 1 : Nat) : Int) - 1 = (i : Int) by omega, rdI h]
theorem checkr_l0 (K C : Int) (l : List Int) (hl : l.length ≤ 17592186043904) : ∀ (d i : Nat), i + d = l.length → -1 ≤ prevOf l i → Ev (fun k => lookoutref30_Check.l0 k (l.length : Int) (i : Int) K C l) (if ckS (prevOf l i) (l.drop i) = true then 0 else 1) := by
  intro d
  induction d with
  | zero => intro i h _; rw [List.drop_eq_nil_of_le (by omega), ckS, if_pos rfl]; exact Ev.step (fun k => by rw [lookoutref30_Check.l0, if_neg (by omega)]) (Ev.now _)
  | succ d ih =>
    intro i h hge
    have hi : i < l.length := by omega
    rw [dropI hi, ckS]
    have e := rdI hi
    have hs := ih (i + 1) (by omega)
    rw [prevOf_succ hi] at hs
    have bad : Ev (fun _ => some (1 : Int)) (if (false : Bool) = true then 0 else 1) := Ev.now _
    by_cases h2 : 4294967296 ≤ l[i]
    · rw [show (if l[i] ≤ prevOf l i then false else if 4294967296 ≤ l[i] then false else ckS l[i] (l.drop (i + 1))) = false by split <;> simp [h2]]
      exact Ev.step (fun k => by rw [lookoutref30_Check.l0, if_pos (by omega), if_pos (by omega), if_pos (by omega), e, if_neg (by omega), if_pos h2]) bad
    · rw [if_neg h2]
      by_cases h0 : i = 0
      · subst h0
        have hp : prevOf l 0 = -1 := rfl
        rw [hp] at hge ⊢
        by_cases h1 : l[0] < 0
        · rw [if_pos (show l[0] ≤ -1 by omega)]
          exact Ev.step (fun k => by rw [lookoutref30_Check.l0, if_pos (by omega), if_pos (by omega), if_pos (by omega), e, if_pos h1]) bad
        · rw [if_neg (show ¬ l[0] ≤ -1 by omega)]
          exact Ev.step (fun k => by rw [lookoutref30_Check.l0, if_pos (by omega), if_pos (by omega), if_pos (by omega), e, if_neg h1, if_neg h2, if_neg (by omega), w1 (by omega)]) (hs (by omega))
      · have hv : wrap64 ((i : Int) - 1) = ((i - 1 : Nat) : Int) := by unfold wrap64; omega
        have hp : prevOf l i = l[i - 1] := by unfold prevOf; rw [if_neg h0, show (i : Int) - 1 = ((i - 1 : Nat) : Int) by omega, rdI (by omega)]
        by_cases h1 : l[i] ≤ l[i - 1]
        · rw [hp, if_pos h1]
          by_cases h3 : l[i] < 0
          · exact Ev.step (fun k => by rw [lookoutref30_Check.l0, if_pos (by omega), if_pos (by omega), if_pos (by omega), e, if_pos h3]) bad
          · exact Ev.step (fun k => by rw [lookoutref30_Check.l0, if_pos (by omega), if_pos (by omega), if_pos (by omega), e, if_neg h3, if_neg h2, if_pos (by omega), hv, if_pos (by omega), if_pos (by omega), rdI (show i - 1 < l.length by omega), if_pos h1]) bad
        · rw [hp] at hge ⊢
          rw [if_neg h1]
          exact Ev.step (fun k => by rw [lookoutref30_Check.l0, if_pos (by omega), if_pos (by omega), if_pos (by omega), e, if_neg (by omega), if_neg h2, if_pos (by omega), hv, if_pos (by omega), if_pos (by omega), rdI (show i - 1 < l.length by omega), if_neg h1, w1 (by omega)]) (hs (by omega))
theorem checkr_ev (K C : Int) (l : List Int) (hl : l.length ≤ 17592186043904) : Ev (fun k => lookoutref30_Check.f k K C l) (CK K C l) := by
  have bad : ¬ OKK K C l → Ev (fun k => lookoutref30_Check.j0 k (l.length : Int) true K C l) (CK K C l) := fun h => by
    unfold CK; rw [if_neg h]; exact Ev.step (fun k => by rw [lookoutref30_Check.j0, if_pos rfl]) (Ev.now _)
  by_cases h1 : K < 1
  · exact Ev.congr (fun k => by rw [lookoutref30_Check.f, if_pos h1]) (bad (fun h => by have := h.1; omega))
  by_cases h2 : K > 1000
  · exact Ev.congr (fun k => by rw [lookoutref30_Check.f, if_neg h1, if_pos h2]) (bad (fun h => by have := h.2.1; omega))
  by_cases h3 : C < 0
  · exact Ev.congr (fun k => by rw [lookoutref30_Check.f, if_neg h1, if_neg h2, if_pos h3]) (bad (fun h => by have := h.2.2.1; omega))
  by_cases h4 : C > 1152921504606846976
  · exact Ev.congr (fun k => by rw [lookoutref30_Check.f, if_neg h1, if_neg h2, if_neg h3, if_pos h4]) (bad (fun h => by have := h.2.2.2.1; omega))
  by_cases h5 : (l.length : Int) > K
  · exact Ev.congr (fun k => by rw [lookoutref30_Check.f, if_neg h1, if_neg h2, if_neg h3, if_neg h4, if_pos h5]) (bad (fun h => by have := h.2.2.2.2.1; omega))
  by_cases h6 : (l.length : Int) > C
  · exact Ev.congr (fun k => by rw [lookoutref30_Check.f, if_neg h1, if_neg h2, if_neg h3, if_neg h4, if_neg h5, if_pos h6]) (bad (fun h => by have := h.2.2.2.2.2.1; omega))
  have good : (l.length = 0 → C = 0) → Ev (fun k => lookoutref30_Check.j0 k (l.length : Int) false K C l) (CK K C l) := fun h0 => by
    have e : CK K C l = if ckS (prevOf l 0) (l.drop 0) = true then 0 else 1 := by
      unfold CK
      rw [List.drop_zero, show prevOf l 0 = -1 from rfl]
      by_cases h : ckS (-1) l = true
      · rw [if_pos h, if_pos (show OKK K C l from ⟨by omega, by omega, by omega, by omega, by omega, by omega, h0, h⟩)]
      · rw [if_neg h, if_neg (show ¬ OKK K C l from fun h' => h h'.2.2.2.2.2.2.2)]
    rw [e]
    exact Ev.step (fun k => by rw [lookoutref30_Check.j0, if_neg (by decide)]; rfl) (checkr_l0 K C l hl l.length 0 (by omega) (by show (-1 : Int) ≤ -1; omega))
  by_cases h7 : (l.length : Int) = 0
  · by_cases h8 : C > 0
    · exact Ev.congr (fun k => by rw [lookoutref30_Check.f, if_neg h1, if_neg h2, if_neg h3, if_neg h4, if_neg h5, if_neg h6, if_pos h7, decide_eq_true h8]) (bad (fun h => by have := h.2.2.2.2.2.2.1 (by omega); omega))
    · exact Ev.congr (fun k => by rw [lookoutref30_Check.f, if_neg h1, if_neg h2, if_neg h3, if_neg h4, if_neg h5, if_neg h6, if_pos h7, decide_eq_false h8]) (good (fun _ => by omega))
  · exact Ev.congr (fun k => by rw [lookoutref30_Check.f, if_neg h1, if_neg h2, if_neg h3, if_neg h4, if_neg h5, if_neg h6, if_neg h7]) (good (fun h => by omega))
/-! ## with -/
theorem mn_take (l : List Int) (K : Int) (hK : 0 ≤ K) : (if 0 ≤ mn K (l.length : Int) then (if mn K (l.length : Int) ≤ (l.length : Int) then some (l.take (mn K (l.length : Int)).toNat) else none) else none) = some (l.take K.toNat) := by
  by_cases h : (l.length : Int) < K
  · rw [show mn K (l.length : Int) = (l.length : Int) from if_pos h, if_pos (by omega), if_pos (by omega), Int.toNat_natCast, List.take_length, List.take_of_length_le (by omega)]
  · rw [show mn K (l.length : Int) = K from if_neg h, if_pos hK, if_pos (by omega)]
theorem with_done (l : List Int) (x K : Int) (hK : 0 ≤ K) (hl : l.length ≤ 10000000) : ∀ (d i : Nat) (acc : List Int), i + d = l.length → acc.length ≤ i + 1 → (∀ t, (h : t < l.length) → i ≤ t → x < l[t]) → Ev (fun k => lookoutref30_with.l0 k l x K acc true (i : Int)) ((acc ++ l.drop i).take K.toNat) := by
  intro d
  induction d with
  | zero => intro i acc h ha hx; rw [List.drop_eq_nil_of_le (by omega), List.append_nil]; exact Ev.step (fun k => by rw [lookoutref30_with.l0, if_neg (by omega), if_pos rfl, mn_take acc K hK]) (Ev.now _)
  | succ d ih =>
    intro i acc h ha hx
    have hi : i < l.length := by omega
    have hs := ih (i + 1) (acc ++ [l[i]]) (by omega) (by rw [List.length_append]; simp; omega) (fun t ht hit => hx t ht (by omega))
    have e : acc ++ [l[i]] ++ l.drop (i + 1) = acc ++ l.drop i := by rw [dropI hi, List.append_assoc]; rfl
    rw [e] at hs
    refine Ev.step (f := fun k => lookoutref30_with.j1 k l x K acc true (i : Int) false) (fun k => by rw [lookoutref30_with.l0, if_pos (by omega), if_pos rfl]) ?_
    exact Ev.step (fun k => by rw [lookoutref30_with.j1, if_neg (by decide), if_pos (by omega), if_pos (by omega), rdI hi, if_neg (by have := hx i hi (by omega); omega), if_pos (by omega), w1 (by omega)]) hs
theorem with_l0 (l : List Int) (x K : Int) (hv : SO l) (hK : 0 ≤ K) (hl : l.length ≤ 10000000) : ∀ (d i : Nat) (acc : List Int), i + d = l.length → acc.length ≤ i → Ev (fun k => lookoutref30_with.l0 k l x K acc false (i : Int)) ((acc ++ INS (l.drop i) x).take K.toNat) := by
  intro d
  induction d with
  | zero =>
    intro i acc h ha
    rw [List.drop_eq_nil_of_le (by omega)]
    exact Ev.step (fun k => by rw [lookoutref30_with.l0, if_neg (by omega), if_neg (by decide), if_pos (by omega), Option.bind_some, mn_take _ K hK]; rfl) (Ev.now _)
  | succ d ih =>
    intro i acc h ha
    have hi : i < l.length := by omega
    refine Ev.step (f := fun k => lookoutref30_with.j1 k l x K acc false (i : Int) (decide (l[i] ≥ x))) (fun k => by rw [lookoutref30_with.l0, if_pos (by omega), if_neg (by decide), if_pos (by omega), rdI hi]) ?_
    rw [dropI hi, INS]
    by_cases h1 : l[i] < x
    · have hs := ih (i + 1) (acc ++ [l[i]]) (by omega) (by rw [List.length_append]; simp; omega)
      rw [List.append_assoc, List.singleton_append] at hs
      rw [if_pos h1]
      exact Ev.step (fun k => by rw [lookoutref30_with.j1, decide_eq_false (by omega), if_neg (by decide), if_pos (by omega), if_pos (by omega), rdI hi, if_neg (by omega), if_pos (by omega), w1 (by omega)]) hs
    · rw [if_neg h1]
      have hgt : ∀ t, (h : t < l.length) → i + 1 ≤ t → x < l[t] := fun t ht hit => by have := so_lt hv (show i < t by omega) ht; omega
      by_cases h2 : l[i] = x
      · rw [if_pos h2]
        have hs := with_done l x K hK hl d (i + 1) (acc ++ [x]) (by omega) (by rw [List.length_append]; simp; omega) hgt
        rw [h2, show acc ++ x :: l.drop (i + 1) = acc ++ [x] ++ l.drop (i + 1) by rw [List.append_assoc]; rfl]
        exact Ev.step (fun k => by rw [lookoutref30_with.j1, decide_eq_true (by omega), if_pos rfl, if_pos (by omega), Option.bind_some, if_pos (by omega), if_pos (by omega), rdI hi, if_pos h2, w1 (by omega)]) hs
      · rw [if_neg h2]
        have hs := with_done l x K hK hl d (i + 1) (acc ++ [x] ++ [l[i]]) (by omega) (by rw [List.length_append, List.length_append]; simp; omega) hgt
        rw [show acc ++ x :: l[i] :: l.drop (i + 1) = acc ++ [x] ++ [l[i]] ++ l.drop (i + 1) by rw [List.append_assoc, List.append_assoc]; rfl]
        exact Ev.step (fun k => by rw [lookoutref30_with.j1, decide_eq_true (by omega), if_pos rfl, if_pos (by omega), Option.bind_some, if_pos (by omega), if_pos (by omega), rdI hi, if_neg h2, if_pos (by rw [List.length_append]; simp; omega), w1 (by omega)]) hs
theorem with_ev (l : List Int) (x K : Int) (hv : SO l) (hK : 0 ≤ K) (hl : l.length ≤ 10000000) : Ev (fun k => lookoutref30_with.f k l x K) ((INS l x).take K.toNat) := with_l0 l x K hv hK hl l.length 0 [] (by omega) (by simp)
/-! ## Hash -/
theorem hashr_l0 (s : ByteArray) (hs : s.size ≤ 140737488351232) : ∀ (d i : Nat) (h : Int), i + d = s.size → Ev (fun k => lookoutref05_HashString.l0 k s h (i : Int)) (HS s d i h) := by
  intro d
  induction d with
  | zero => intro i h hd; exact Ev.step (fun k => by rw [lookoutref05_HashString.l0, if_neg (by omega)]; rfl) (Ev.now _)
  | succ d ih => intro i h hd; exact Ev.step (fun k => by rw [lookoutref05_HashString.l0, if_pos (by omega), if_pos (by omega), w1 (by omega)]) (ih (i + 1) _ (by omega))
theorem hashr_ev (s : ByteArray) (hs : s.size ≤ 140737488351232) : Ev (fun k => lookoutref05_HashString.f k s) (HASH s) := hashr_l0 s hs s.size 0 _ (by omega)
end Go.Proofs.Ythblifjeecdhcaa.KB
