/- Plain facts on lists of numbers: what Check, Same, great and Seek of the postings chapter and of its reference answer. No condition beyond those in the statements. -/
import Derived.Test.YtdmdhpnlalekfaaKB
namespace Go.Proofs.Ytdmdhpnlalekfaa.VB
open Go.RowKit Go.Proofs.Ytdmdhpnlalekfaa.P Go.Proofs.Ytdmdhpnlalekfaa.A Go.Proofs.Ytdmdhpnlalekfaa.Hand Go.Proofs.YtdmdhpnlalekfaaW.PrintWords Go.Proofs.YtdmdhpnlalekfaaW.PrintLast Go.Proofs.YtdmdhpnlalekfaaW.PrintMore
/-- Why a list is not valid, from a number before it on. -/
def ckFrom : Int → List Int → Int
  | _, [] => 0
  | q, x :: r => if x < 0 ∨ 1152921504606846976 < x then 2 else if x ≤ q then 9 else ckFrom x r
def CK (l : List Int) : Int := ckFrom (-1) l
def prevOf (l : List Int) (i : Nat) : Int := if i = 0 then -1 else rd l ((i : Int) - 1)
theorem prevOf_succ (l : List Int) (i : Nat) : prevOf l (i + 1) = rd l i := by unfold prevOf; rw [if_neg (by omega)]; congr 1; omega
theorem ck_l0 (l : List Int) (hl : l.length ≤ 17592186043904) : ∀ (d i : Nat), i + d = l.length → Ev (fun k => postings_Check.l0 k l l (l.length : Int) (i : Int)) (ckFrom (prevOf l i) (l.drop i)) := by
  intro d
  induction d with
  | zero => intro i h; rw [List.drop_eq_nil_of_le (by omega), ckFrom]; exact Ev.step (fun k => by rw [postings_Check.l0, if_neg (by omega)]) (Ev.now _)
  | succ d ih =>
    intro i h
    have hi : i < l.length := by omega
    have hw : wrap64 ((i : Int) + 1) = ((i + 1 : Nat) : Int) := by unfold wrap64; omega
    rw [drop_rd' hi, ckFrom]
    have hj : ∀ c, c = decide (rd l i < 0 ∨ 1152921504606846976 < rd l i) → Ev (fun k => postings_Check.j1 k l i (rd l i) l l.length i c) (if rd l i < 0 ∨ 1152921504606846976 < rd l i then 2 else if rd l i ≤ prevOf l i then 9 else ckFrom (rd l i) (l.drop (i + 1))) := by
      rintro c rfl
      by_cases hc : rd l i < 0 ∨ 1152921504606846976 < rd l i
      · rw [if_pos hc]
        exact Ev.step (fun k => by rw [postings_Check.j1, if_pos (decide_eq_true hc)]) (Ev.now _)
      · rw [if_neg hc]
        by_cases h0 : i = 0
        · subst h0
          have hp : prevOf l 0 = -1 := rfl
          rw [if_neg (by rw [hp]; omega)]
          have hs := ih (0 + 1) (by omega)
          rw [prevOf_succ] at hs
          exact Ev.step (fun k => by rw [postings_Check.j1, if_neg (by simpa using hc), if_neg (by omega), hw]) hs
        · have hv : wrap64 ((i : Int) - 1) = (i : Int) - 1 := by unfold wrap64; omega
          have hp : prevOf l i = rd l ((i : Int) - 1) := if_neg h0
          by_cases hle : rd l i ≤ rd l ((i : Int) - 1)
          · rw [hp, if_pos hle]
            exact Ev.step (fun k => by rw [postings_Check.j1, if_neg (by simpa using hc), if_pos (by omega), hv, if_pos (by omega), if_pos (by omega), if_pos hle]) (Ev.now _)
          · rw [hp, if_neg hle]
            have hs := ih (i + 1) (by omega)
            rw [prevOf_succ] at hs
            exact Ev.step (fun k => by rw [postings_Check.j1, if_neg (by simpa using hc), if_pos (by omega), hv, if_pos (by omega), if_pos (by omega), if_neg hle, hw]) hs
    by_cases h1 : rd l i < 0
    · exact Ev.step (fun k => by rw [postings_Check.l0, if_pos (by omega), if_pos (by omega), if_pos (by omega), if_pos h1]) (hj true (by simp [h1]))
    · exact Ev.step (fun k => by rw [postings_Check.l0, if_pos (by omega), if_pos (by omega), if_pos (by omega), if_neg h1]) (hj _ (by simp [h1]))
theorem check_ev (l : List Int) (hl : l.length ≤ 17592186043904) : Ev (fun k => postings_Check.f k l) (CK l) := ck_l0 l hl l.length 0 (by omega)
theorem ckr_l0 (l : List Int) (hl : l.length ≤ 17592186043904) : ∀ (d i : Nat), i + d = l.length → Ev (fun k => lookoutref08_Check.l0 k l (i : Int)) (ckFrom (prevOf l i) (l.drop i)) := by
  intro d
  induction d with
  | zero => intro i h; rw [List.drop_eq_nil_of_le (by omega), ckFrom]; exact Ev.step (fun k => by rw [lookoutref08_Check.l0, if_neg (by omega)]) (Ev.now _)
  | succ d ih =>
    intro i h
    have hi : i < l.length := by omega
    have hw : wrap64 ((i : Int) + 1) = ((i + 1 : Nat) : Int) := by unfold wrap64; omega
    rw [drop_rd' hi, ckFrom]
    have hj : ∀ c, c = decide (rd l i < 0 ∨ 1152921504606846976 < rd l i) → Ev (fun k => lookoutref08_Check.j1 k l i c) (if rd l i < 0 ∨ 1152921504606846976 < rd l i then 2 else if rd l i ≤ prevOf l i then 9 else ckFrom (rd l i) (l.drop (i + 1))) := by
      rintro c rfl
      by_cases hc : rd l i < 0 ∨ 1152921504606846976 < rd l i
      · rw [if_pos hc]
        exact Ev.step (fun k => by rw [lookoutref08_Check.j1, if_pos (decide_eq_true hc)]) (Ev.now _)
      · rw [if_neg hc]
        by_cases h0 : i = 0
        · subst h0
          have hp : prevOf l 0 = -1 := rfl
          rw [if_neg (by rw [hp]; omega)]
          have hs := ih (0 + 1) (by omega)
          rw [prevOf_succ] at hs
          exact Ev.step (fun k => by rw [lookoutref08_Check.j1, if_neg (by simpa using hc), if_neg (by omega), hw]) hs
        · have hv : wrap64 ((i : Int) - 1) = (i : Int) - 1 := by unfold wrap64; omega
          have hp : prevOf l i = rd l ((i : Int) - 1) := if_neg h0
          by_cases hle : rd l i ≤ rd l ((i : Int) - 1)
          · rw [hp, if_pos hle]
            exact Ev.step (fun k => by rw [lookoutref08_Check.j1, if_neg (by simpa using hc), if_pos (by omega), if_pos (by omega), if_pos (by omega), hv, if_pos (by omega), if_pos (by omega), if_pos hle]) (Ev.now _)
          · rw [hp, if_neg hle]
            have hs := ih (i + 1) (by omega)
            rw [prevOf_succ] at hs
            exact Ev.step (fun k => by rw [lookoutref08_Check.j1, if_neg (by simpa using hc), if_pos (by omega), if_pos (by omega), if_pos (by omega), hv, if_pos (by omega), if_pos (by omega), if_neg hle, hw]) hs
    by_cases h1 : rd l i < 0
    · exact Ev.step (fun k => by rw [lookoutref08_Check.l0, if_pos (by omega), if_pos (by omega), if_pos h1]) (hj true (by simp [h1]))
    · exact Ev.step (fun k => by rw [lookoutref08_Check.l0, if_pos (by omega), if_pos (by omega), if_neg h1]) (hj _ (by simp [h1]))
theorem checkRef_ev (l : List Int) (hl : l.length ≤ 17592186043904) : Ev (fun k => lookoutref08_Check.f k l) (CK l) := ckr_l0 l hl l.length 0 (by omega)
/-- Valid lists. -/
def VL (l : List Int) : Prop := (∀ x ∈ l, 0 ≤ x ∧ x ≤ 1152921504606846976) ∧ l.Pairwise (· < ·)
theorem ckFrom_zero : ∀ (l : List Int) (q : Int), ckFrom q l = 0 ↔ (∀ x ∈ l, 0 ≤ x ∧ x ≤ 1152921504606846976) ∧ (∀ x ∈ l, q < x) ∧ l.Pairwise (· < ·)
  | [], q => by simp [ckFrom]
  | x :: r, q => by
    rw [ckFrom, List.pairwise_cons]
    by_cases h1 : x < 0 ∨ 1152921504606846976 < x
    · rw [if_pos h1]
      constructor
      · intro h; omega
      · rintro ⟨h, _⟩; have := h x (by simp); omega
    · rw [if_neg h1]
      by_cases h2 : x ≤ q
      · rw [if_pos h2]
        constructor
        · intro h; omega
        · rintro ⟨_, h, _⟩; have := h x (by simp); omega
      · rw [if_neg h2, ckFrom_zero r x]
        constructor
        · rintro ⟨a, b, c⟩
          refine ⟨fun y hy => ?_, fun y hy => ?_, b, c⟩
          · rcases List.mem_cons.1 hy with rfl | hy
            · omega
            · exact a y hy
          · rcases List.mem_cons.1 hy with rfl | hy
            · omega
            · have := b y hy; omega
        · rintro ⟨a, b, c, d⟩
          exact ⟨fun y hy => a y (by simp [hy]), c, d⟩
theorem CK_zero (l : List Int) : CK l = 0 ↔ VL l := by
  unfold CK VL
  rw [ckFrom_zero]
  constructor
  · rintro ⟨a, _, c⟩; exact ⟨a, c⟩
  · rintro ⟨a, c⟩; exact ⟨a, fun x hx => by have := a x hx; omega, c⟩
theorem ckFrom_in : ∀ (l : List Int) (q : Int), ckFrom q l = 0 ∨ ckFrom q l = 2 ∨ ckFrom q l = 9
  | [], _ => .inl rfl
  | x :: r, q => by
    rw [ckFrom]
    split
    · exact .inr (.inl rfl)
    · split
      · exact .inr (.inr rfl)
      · exact ckFrom_in r x
instance (l : List Int) : Decidable (VL l) := decidable_of_iff _ (CK_zero l)
theorem rdL_one (l : List Int) : rd_L2 [l] 0 = l := rfl
theorem valid1_ev (l : List Int) (hl : l.length ≤ 17592186043904) : Ev (fun k => postings_valid.f k [l]) (decide (CK l = 0)) := by
  simp only [postings_valid.f]
  refine Ev.step (f := fun k => (postings_Check.f k l).bind fun t => if t = 0 then postings_valid.l0 k [l] 1 1 else some false) (fun k => by
    rw [postings_valid.l0, if_pos (by simp), if_pos (by decide), if_pos (by simp), show wrap64 (0 + 1) = 1 from by unfold wrap64; omega, show rd_L2 [l] 0 = l from rfl]
    rfl) (Ev.bind (check_ev l hl) ?_)
  by_cases h : CK l = 0
  · simp only [if_pos h]
    rw [decide_eq_true h]
    exact Ev.step (fun k => by rw [postings_valid.l0, if_neg (by decide)]) (Ev.now _)
  · simp only [if_neg h]
    rw [decide_eq_false h]
    exact Ev.now _
theorem valid2_ev (l m : List Int) (hl : l.length ≤ 17592186043904) (hm : m.length ≤ 17592186043904) : Ev (fun k => postings_valid.f k [l, m]) (decide (CK l = 0 ∧ CK m = 0)) := by
  simp only [postings_valid.f]
  refine Ev.step (f := fun k => (postings_Check.f k l).bind fun t => if t = 0 then postings_valid.l0 k [l, m] 2 1 else some false) (fun k => by
    rw [postings_valid.l0, if_pos (by simp), if_pos (by decide), if_pos (by simp), show wrap64 (0 + 1) = 1 from by unfold wrap64; omega, show rd_L2 [l, m] 0 = l from rfl]
    rfl) (Ev.bind (check_ev l hl) ?_)
  by_cases h : CK l = 0
  · simp only [if_pos h]
    refine Ev.step (f := fun k => (postings_Check.f k m).bind fun t => if t = 0 then postings_valid.l0 k [l, m] 2 2 else some false) (fun k => by
      rw [postings_valid.l0, if_pos (by decide), if_pos (by decide), if_pos (by simp), show wrap64 (1 + 1) = 2 from by unfold wrap64; omega, show rd_L2 [l, m] 1 = m from rfl]) (Ev.bind (check_ev m hm) ?_)
    by_cases h2 : CK m = 0
    · simp only [if_pos h2]
      rw [decide_eq_true ⟨h, h2⟩]
      exact Ev.step (fun k => by rw [postings_valid.l0, if_neg (by decide)]) (Ev.now _)
    · simp only [if_neg h2]
      rw [decide_eq_false (fun h' => h2 h'.2)]
      exact Ev.now _
  · simp only [if_neg h]
    rw [decide_eq_false (fun h' => h h'.1)]
    exact Ev.now _
theorem same8_l0 (l : List Int) (hl : l.length ≤ 17592186043904) : ∀ (d i : Nat), i + d = l.length → Ev (fun k => lookoutref08_Same.l0 k l l i) true := by
  intro d
  induction d with
  | zero => intro i h; exact Ev.step (fun k => by rw [lookoutref08_Same.l0, if_neg (by omega)]) (Ev.now _)
  | succ d ih =>
    intro i h
    have hw : wrap64 ((i : Int) + 1) = ((i + 1 : Nat) : Int) := by unfold wrap64; omega
    exact Ev.step (fun k => by rw [lookoutref08_Same.l0, if_pos (by omega), if_pos (by omega), if_pos (by omega), if_pos rfl, hw]) (ih (i + 1) (by omega))
theorem same8_ev (l : List Int) (hl : l.length ≤ 17592186043904) : Ev (fun k => lookoutref08_Same.f k l l) true := by
  simp only [lookoutref08_Same.f, if_true]
  exact same8_l0 l hl l.length 0 (by omega)
theorem awake8_ev : Ev (fun k => lookoutlaw08_awake.f k) true := Ev.of (fun k => lookoutlaw08_awake.mono k) (k := 40) (by decide +kernel)
theorem awake8b_ev : Ev (fun k => (lookoutlaw08_awake.f k).bind fun t => some t) true := Ev.bind awake8_ev (Ev.now true)
theorem great1 (l : List Int) : lookoutlaw08_great.f [l] = some (decide (40 < l.length)) := by
  simp only [lookoutlaw08_great.f, contains_great.f]
  rw [if_neg (by simp)]
  simp [contains_great.pred]
theorem great2 (l m : List Int) : lookoutlaw08_great.f [l, m] = some (decide (40 < l.length) || decide (40 < m.length)) := by
  simp only [lookoutlaw08_great.f, contains_great.f]
  rw [if_neg (by simp)]
  simp [contains_great.pred]
theorem great3 (l m n : List Int) : lookoutlaw08_great.f [l, m, n] = some (decide (40 < l.length) || (decide (40 < m.length) || decide (40 < n.length))) := by
  simp only [lookoutlaw08_great.f, contains_great.f]
  rw [if_neg (by simp)]
  simp [contains_great.pred]
end Go.Proofs.Ytdmdhpnlalekfaa.VB
