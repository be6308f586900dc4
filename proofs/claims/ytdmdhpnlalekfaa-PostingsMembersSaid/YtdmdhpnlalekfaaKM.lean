/- Plain facts on lists of numbers: what And, Or and Without of the postings chapter answer. No condition beyond those in the statements. -/
import Derived.Test.YtdmdhpnlalekfaaMA
import Derived.Test.YtdmdhpnlalekfaaMx20
import Derived.Test.YtdmdhpnlalekfaaMC
import Derived.Test.YtdmdhpnlalekfaaWNEv
namespace Go.Proofs.Ytdmdhpnlalekfaa.VB
open Go.RowKit Go.Proofs.Ytdmdhpnlalekfaa.M Go.Proofs.Ytdmdhpnlalekfaa.A Go.Proofs.Ytdmdhpnlalekfaa.Hand Go.Proofs.YtdmdhpnlalekfaaW.PrintWords Go.Proofs.YtdmdhpnlalekfaaW.PrintLast Go.Proofs.YtdmdhpnlalekfaaW.PrintMore
set_option linter.unusedVariables false
/-- Why a list is not valid, from a number before it on. -/
def ckFrom : Int → List Int → Int
  | _, [] => 0
  | q, x :: r => if x < 0 ∨ 1152921504606846976 < x then 2 else if x ≤ q then 9 else ckFrom x r
def CK (l : List Int) : Int := ckFrom (-1) l
def prevOf (l : List Int) (i : Nat) : Int := if i = 0 then -1 else rd l ((i : Int) - 1)
theorem prevOf_succ (l : List Int) (i : Nat) : prevOf l (i + 1) = rd l i := by unfold prevOf; rw [if_neg (by omega)]; congr 1; omega
theorem ck_l0 (l : List Int) (hl : l.length ≤ 17592186043904) : ∀ (d i : Nat), i + d = l.length → Ev (fun k => postings_Check.l0 k l l (l.length : Int) (i : Int)) (ckFrom (prevOf l i) (l.drop i)) := by
  intro d
  induction d with
  | zero => intro i h; rw [List.drop_eq_nil_of_le (by omega), ckFrom]; exact Ev.step (fun k => by rw [postings_Check.l0, if_neg (by omega)]) (Ev.now _)
  | succ d ih =>
    intro i h
    have hi : i < l.length := by omega
    have hw : wrap64 ((i : Int) + 1) = ((i + 1 : Nat) : Int) := by unfold wrap64; omega
    rw [drop_rd' hi, ckFrom]
    have hj : ∀ c, c = decide (rd l i < 0 ∨ 1152921504606846976 < rd l i) → Ev (fun k => postings_Check.j1 k l i (rd l i) l l.length i c) (if rd l i < 0 ∨ 1152921504606846976 < rd l i then 2 else if rd l i ≤ prevOf l i then 9 else ckFrom (rd l i) (l.drop (i + 1))) := by
      rintro c rfl
      by_cases hc : rd l i < 0 ∨ 1152921504606846976 < rd l i
      · rw [if_pos hc]
        exact Ev.step (fun k => by rw [postings_Check.j1, if_pos (decide_eq_true hc)]) (Ev.now _)
      · rw [if_neg hc]
        by_cases h0 : i = 0
        · subst h0
          have hp : prevOf l 0 = -1 := rfl
          rw [if_neg (by rw [hp]; omega)]
          have hs := ih (0 + 1) (by omega)
          rw [prevOf_succ] at hs
          exact Ev.step (fun k => by rw [postings_Check.j1, if_neg (by simpa using hc), if_neg (by omega), hw]) hs
        · have hv : wrap64 ((i : Int) - 1) = (i : Int) - 1 := by unfold wrap64; omega
          have hp : prevOf l i = rd l ((i : Int) - 1) := if_neg h0
          by_cases hle : rd l i ≤ rd l ((i : Int) - 1)
          · rw [hp, if_pos hle]
            exact Ev.step (fun k => by rw [postings_Check.j1, if_neg (by simpa using hc), if_pos (by omega), hv, if_pos (by omega), if_pos (by omega), if_pos hle]) (Ev.now _)
          · rw [hp, if_neg hle]
            have hs := ih (i + 1) (by omega)
            rw [prevOf_succ] at hs
            exact Ev.step (fun k => by rw [postings_Check.j1, if_neg (by simpa using hc), if_pos (by omega), hv, if_pos (by omega), if_pos (by omega), if_neg hle, hw]) hs
    by_cases h1 : rd l i < 0
    · exact Ev.step (fun k => by rw [postings_Check.l0, if_pos (by omega), if_pos (by omega), if_pos (by omega), if_pos h1]) (hj true (by simp [h1]))
    · exact Ev.step (fun k => by rw [postings_Check.l0, if_pos (by omega), if_pos (by omega), if_pos (by omega), if_neg h1]) (hj _ (by simp [h1]))
theorem check_ev (l : List Int) (hl : l.length ≤ 17592186043904) : Ev (fun k => postings_Check.f k l) (CK l) := ck_l0 l hl l.length 0 (by omega)
/-- Valid lists. -/
def VL (l : List Int) : Prop := (∀ x ∈ l, 0 ≤ x ∧ x ≤ 1152921504606846976) ∧ l.Pairwise (· < ·)
theorem ckFrom_zero : ∀ (l : List Int) (q : Int), ckFrom q l = 0 ↔ (∀ x ∈ l, 0 ≤ x ∧ x ≤ 1152921504606846976) ∧ (∀ x ∈ l, q < x) ∧ l.Pairwise (· < ·)
  | [], q => by simp [ckFrom]
  | x :: r, q => by
    rw [ckFrom, List.pairwise_cons]
    by_cases h1 : x < 0 ∨ 1152921504606846976 < x
    · rw [if_pos h1]
      constructor
      · intro h; omega
      · rintro ⟨h, _⟩; have := h x (by simp); omega
    · rw [if_neg h1]
      by_cases h2 : x ≤ q
      · rw [if_pos h2]
        constructor
        · intro h; omega
        · rintro ⟨_, h, _⟩; have := h x (by simp); omega
      · rw [if_neg h2, ckFrom_zero r x]
        constructor
        · rintro ⟨a, b, c⟩
          refine ⟨fun y hy => ?_, fun y hy => ?_, b, c⟩
          · rcases List.mem_cons.1 hy with rfl | hy
            · omega
            · exact a y hy
          · rcases List.mem_cons.1 hy with rfl | hy
            · omega
            · have := b y hy; omega
        · rintro ⟨a, b, c, d⟩
          exact ⟨fun y hy => a y (by simp [hy]), c, d⟩
theorem CK_zero (l : List Int) : CK l = 0 ↔ VL l := by
  unfold CK VL
  rw [ckFrom_zero]
  constructor
  · rintro ⟨a, _, c⟩; exact ⟨a, c⟩
  · rintro ⟨a, c⟩; exact ⟨a, fun x hx => by have := a x hx; omega, c⟩
theorem ckFrom_in : ∀ (l : List Int) (q : Int), ckFrom q l = 0 ∨ ckFrom q l = 2 ∨ ckFrom q l = 9
  | [], _ => .inl rfl
  | x :: r, q => by
    rw [ckFrom]
    split
    · exact .inr (.inl rfl)
    · split
      · exact .inr (.inr rfl)
      · exact ckFrom_in r x
instance (l : List Int) : Decidable (VL l) := decidable_of_iff _ (CK_zero l)
theorem rdL_one (l : List Int) : rd_L2 [l] 0 = l := rfl
theorem valid1_ev (l : List Int) (hl : l.length ≤ 17592186043904) : Ev (fun k => postings_valid.f k [l]) (decide (CK l = 0)) := by
  simp only [postings_valid.f]
  refine Ev.step (f := fun k => (postings_Check.f k l).bind fun t => if t = 0 then postings_valid.l0 k [l] 1 1 else some false) (fun k => by
    rw [postings_valid.l0, if_pos (by simp), if_pos (by decide), if_pos (by simp), show wrap64 (0 + 1) = 1 from by unfold wrap64; omega, show rd_L2 [l] 0 = l from rfl]
    rfl) (Ev.bind (check_ev l hl) ?_)
  by_cases h : CK l = 0
  · simp only [if_pos h]
    rw [decide_eq_true h]
    exact Ev.step (fun k => by rw [postings_valid.l0, if_neg (by decide)]) (Ev.now _)
  · simp only [if_neg h]
    rw [decide_eq_false h]
    exact Ev.now _
theorem valid2_ev (l m : List Int) (hl : l.length ≤ 17592186043904) (hm : m.length ≤ 17592186043904) : Ev (fun k => postings_valid.f k [l, m]) (decide (CK l = 0 ∧ CK m = 0)) := by
  simp only [postings_valid.f]
  refine Ev.step (f := fun k => (postings_Check.f k l).bind fun t => if t = 0 then postings_valid.l0 k [l, m] 2 1 else some false) (fun k => by
    rw [postings_valid.l0, if_pos (by simp), if_pos (by decide), if_pos (by simp), show wrap64 (0 + 1) = 1 from by unfold wrap64; omega, show rd_L2 [l, m] 0 = l from rfl]
    rfl) (Ev.bind (check_ev l hl) ?_)
  by_cases h : CK l = 0
  · simp only [if_pos h]
    refine Ev.step (f := fun k => (postings_Check.f k m).bind fun t => if t = 0 then postings_valid.l0 k [l, m] 2 2 else some false) (fun k => by
      rw [postings_valid.l0, if_pos (by decide), if_pos (by decide), if_pos (by simp), show wrap64 (1 + 1) = 2 from by unfold wrap64; omega, show rd_L2 [l, m] 1 = m from rfl]) (Ev.bind (check_ev m hm) ?_)
    by_cases h2 : CK m = 0
    · simp only [if_pos h2]
      rw [decide_eq_true ⟨h, h2⟩]
      exact Ev.step (fun k => by rw [postings_valid.l0, if_neg (by decide)]) (Ev.now _)
    · simp only [if_neg h2]
      rw [decide_eq_false (fun h' => h2 h'.2)]
      exact Ev.now _
  · simp only [if_neg h]
    rw [decide_eq_false (fun h' => h h'.1)]
    exact Ev.now _
theorem same8_l0 (l : List Int) (hl : l.length ≤ 17592186043904) : ∀ (d i : Nat), i + d = l.length → Ev (fun k => lookoutref08_Same.l0 k l l i) true := by
  intro d
  induction d with
  | zero => intro i h; exact Ev.step (fun k => by rw [lookoutref08_Same.l0, if_neg (by omega)]) (Ev.now _)
  | succ d ih =>
    intro i h
    have hw : wrap64 ((i : Int) + 1) = ((i + 1 : Nat) : Int) := by unfold wrap64; omega
    exact Ev.step (fun k => by rw [lookoutref08_Same.l0, if_pos (by omega), if_pos (by omega), if_pos (by omega), if_pos rfl, hw]) (ih (i + 1) (by omega))
theorem same8_ev (l : List Int) (hl : l.length ≤ 17592186043904) : Ev (fun k => lookoutref08_Same.f k l l) true := by
  simp only [lookoutref08_Same.f, if_true]
  exact same8_l0 l hl l.length 0 (by omega)
theorem awake8_ev : Ev (fun k => lookoutlaw08_awake.f k) true := Ev.of (fun k => lookoutlaw08_awake.mono k) (k := 40) (by decide +kernel)
theorem awake8b_ev : Ev (fun k => (lookoutlaw08_awake.f k).bind fun t => some t) true := Ev.bind awake8_ev (Ev.now true)
theorem great1 (l : List Int) : lookoutlaw08_great.f [l] = some (decide (40 < l.length)) := by
  simp only [lookoutlaw08_great.f, contains_great.f]
  rw [if_neg (by simp)]
  simp [contains_great.pred]
theorem great2 (l m : List Int) : lookoutlaw08_great.f [l, m] = some (decide (40 < l.length) || decide (40 < m.length)) := by
  simp only [lookoutlaw08_great.f, contains_great.f]
  rw [if_neg (by simp)]
  simp [contains_great.pred]
theorem great3 (l m n : List Int) : lookoutlaw08_great.f [l, m, n] = some (decide (40 < l.length) || (decide (40 < m.length) || decide (40 < n.length))) := by
  simp only [lookoutlaw08_great.f, contains_great.f]
  rw [if_neg (by simp)]
  simp [contains_great.pred]
/-- Two strictly ascending lists with the same numbers are the same. -/
theorem sorted_ext : ∀ (a b : List Int), a.Pairwise (· < ·) → b.Pairwise (· < ·) → (∀ x, x ∈ a ↔ x ∈ b) → a = b
  | [], [], _, _, _ => rfl
  | [], y :: b, _, _, h => by have := (h y).2 (by simp); simp at this
  | x :: a, [], _, _, h => by have := (h x).1 (by simp); simp at this
  | x :: a, y :: b, ha, hb, h => by
    rw [List.pairwise_cons] at ha hb
    have hxy : x = y := by
      have h1 := (h x).1 (by simp)
      have h2 := (h y).2 (by simp)
      rcases List.mem_cons.1 h1 with h1 | h1
      · exact h1
      · rcases List.mem_cons.1 h2 with h2 | h2
        · exact h2.symm
        · have := hb.1 x h1; have := ha.1 y h2; omega
    subst hxy
    rw [sorted_ext a b ha.2 hb.2 (fun z => by
      constructor
      · intro hz
        have := ha.1 z hz
        rcases List.mem_cons.1 ((h z).1 (by simp [hz])) with rfl | h'
        · omega
        · exact h'
      · intro hz
        have := hb.1 z hz
        rcases List.mem_cons.1 ((h z).2 (by simp [hz])) with rfl | h'
        · omega
        · exact h')]
structure WalkOK (a b : List Int) (L : List (Int × Bool × Bool)) : Prop where
  sorted : (L.map (·.1)).Pairwise (· < ·)
  each : ∀ e ∈ L, e.2.1 = decide (e.1 ∈ a) ∧ e.2.2 = decide (e.1 ∈ b) ∧ (e.1 ∈ a ∨ e.1 ∈ b)
  all : ∀ x, x ∈ a ∨ x ∈ b → ∃ e ∈ L, e.1 = x
theorem WalkOK.cons {a b a' b' : List Int} {L : List (Int × Bool × Bool)} {x : Int} {p q : Bool} (h : WalkOK a' b' L)
    (ha : ∀ y, y ∈ a ↔ (y = x ∧ p = true) ∨ y ∈ a') (hb : ∀ y, y ∈ b ↔ (y = x ∧ q = true) ∨ y ∈ b') (la : ∀ y ∈ a', x < y) (lb : ∀ y ∈ b', x < y) (hpq : p = true ∨ q = true) : WalkOK a b ((x, p, q) :: L) := by
  have xa : decide (x ∈ a) = p := by
    cases p with
    | true => exact decide_eq_true ((ha x).2 (.inl ⟨rfl, rfl⟩))
    | false => exact decide_eq_false (fun h' => by rcases (ha x).1 h' with ⟨_, h'⟩ | h'; · cases h'
                                                   · have := la x h'; omega)
  have xb : decide (x ∈ b) = q := by
    cases q with
    | true => exact decide_eq_true ((hb x).2 (.inl ⟨rfl, rfl⟩))
    | false => exact decide_eq_false (fun h' => by rcases (hb x).1 h' with ⟨_, h'⟩ | h'; · cases h'
                                                   · have := lb x h'; omega)
  refine ⟨?_, ?_, ?_⟩
  · rw [List.map_cons, List.pairwise_cons]
    refine ⟨fun y hy => ?_, h.sorted⟩
    obtain ⟨e, he, rfl⟩ := List.mem_map.1 hy
    rcases (h.each e he).2.2 with h' | h'
    · exact la _ h'
    · exact lb _ h'
  · intro e he
    rcases List.mem_cons.1 he with rfl | he
    · refine ⟨xa.symm, xb.symm, ?_⟩
      rcases hpq with hp | hq
      · exact .inl ((ha x).2 (.inl ⟨rfl, hp⟩))
      · exact .inr ((hb x).2 (.inl ⟨rfl, hq⟩))
    · obtain ⟨h1, h2, h3⟩ := h.each e he
      have hne : e.1 ≠ x := by
        rcases h3 with h' | h'
        · have := la _ h'; omega
        · have := lb _ h'; omega
      have ea : e.1 ∈ a ↔ e.1 ∈ a' := by rw [ha]; simp [hne]
      have eb : e.1 ∈ b ↔ e.1 ∈ b' := by rw [hb]; simp [hne]
      exact ⟨by rw [h1]; simp [ea], by rw [h2]; simp [eb], by rw [ea, eb]; exact h3⟩
  · intro y hy
    by_cases hyx : y = x
    · exact ⟨_, List.mem_cons_self, hyx.symm⟩
    · have : y ∈ a' ∨ y ∈ b' := by
        rcases hy with hy | hy
        · rcases (ha y).1 hy with ⟨h', _⟩ | h'
          · exact absurd h' hyx
          · exact .inl h'
        · rcases (hb y).1 hy with ⟨h', _⟩ | h'
          · exact absurd h' hyx
          · exact .inr h'
      obtain ⟨e, he, h'⟩ := h.all y this
      exact ⟨e, List.mem_cons_of_mem _ he, h'⟩
theorem walk_ok : ∀ (n : Nat) (a b : List Int), a.length + b.length ≤ n → a.Pairwise (· < ·) → b.Pairwise (· < ·) → WalkOK a b (walkL a b) := by
  intro n
  induction n with
  | zero =>
    intro a b h _ _
    obtain rfl : a = [] := List.eq_nil_of_length_eq_zero (by omega)
    obtain rfl : b = [] := List.eq_nil_of_length_eq_zero (by omega)
    exact ⟨by simp [walkL_nil], by simp [walkL_nil], by simp⟩
  | succ n ih =>
    intro a b h ha hb
    match a, b, h, ha, hb with
    | [], [], _, _, _ => exact ⟨by simp [walkL_nil], by simp [walkL_nil], by simp⟩
    | [], y :: b, h, ha, hb =>
      rw [walkL_r]
      rw [List.pairwise_cons] at hb
      exact (ih [] b (by simp at h ⊢; omega) ha hb.2).cons (by simp) (by simp) (by simp) hb.1 (.inr rfl)
    | x :: a, [], h, ha, hb =>
      rw [walkL_l]
      rw [List.pairwise_cons] at ha
      exact (ih a [] (by simp at h ⊢; omega) ha.2 hb).cons (by simp) (by simp) ha.1 (by simp) (.inl rfl)
    | x :: a, y :: b, h, ha, hb =>
      have ha' := List.pairwise_cons.1 ha
      have hb' := List.pairwise_cons.1 hb
      rcases Int.lt_trichotomy x y with hlt | heq | hlt
      · rw [walkL_lt a b hlt]
        refine (ih a (y :: b) (by simp at h ⊢; omega) ha'.2 hb).cons (by simp) (by simp) ha'.1 (fun z hz => ?_) (.inl rfl)
        rcases List.mem_cons.1 hz with rfl | hz
        · exact hlt
        · have := hb'.1 z hz; omega
      · subst heq
        rw [walkL_eq x a b]
        exact (ih a b (by simp at h ⊢; omega) ha'.2 hb'.2).cons (by simp) (by simp) ha'.1 hb'.1 (.inl rfl)
      · rw [walkL_gt a b hlt]
        refine (ih (x :: a) b (by simp at h ⊢; omega) ha hb'.2).cons (by simp) (by simp) (fun z hz => ?_) hb'.1 (.inr rfl)
        rcases List.mem_cons.1 hz with rfl | hz
        · exact hlt
        · have := ha'.1 z hz; omega
theorem comb_sorted (g : Bool → Bool → Bool) {a b : List Int} (ha : a.Pairwise (· < ·)) (hb : b.Pairwise (· < ·)) : (combG g (walkL a b)).Pairwise (· < ·) := by
  have h := (walk_ok _ a b (Nat.le_refl _) ha hb).sorted
  unfold combG
  exact h.sublist (List.Sublist.map _ (List.filter_sublist))
theorem comb_mem (g : Bool → Bool → Bool) {a b : List Int} (ha : a.Pairwise (· < ·)) (hb : b.Pairwise (· < ·)) (x : Int) : x ∈ combG g (walkL a b) ↔ (x ∈ a ∨ x ∈ b) ∧ g (decide (x ∈ a)) (decide (x ∈ b)) = true := by
  have h := walk_ok _ a b (Nat.le_refl _) ha hb
  unfold combG
  rw [List.mem_map]
  constructor
  · rintro ⟨e, he, rfl⟩
    rw [List.mem_filter] at he
    obtain ⟨h1, h2, h3⟩ := h.each e he.1
    exact ⟨h3, by rw [← h1, ← h2]; exact he.2⟩
  · rintro ⟨h1, h2⟩
    obtain ⟨e, he, rfl⟩ := h.all x h1
    obtain ⟨h3, h4, _⟩ := h.each e he
    exact ⟨e, List.mem_filter.2 ⟨he, by rw [h3, h4]; exact h2⟩, rfl⟩
theorem comb_len (g : Bool → Bool → Bool) (a b : List Int) : (combG g (walkL a b)).length ≤ a.length + b.length := by
  have h1 := walkL_len a b
  have h2 := combG_len g (walkL a b) (walkL a b).length
  rw [List.take_length] at h2
  omega
/-- The three functions' answers. -/
def AN (a b : List Int) : List Int := if CK a = 0 ∧ CK b = 0 then combG gAnd (walkL a b) else []
def OR (a b : List Int) : List Int := if CK a = 0 ∧ CK b = 0 then combG gOr (walkL a b) else []
def WO (a b : List Int) : List Int := if CK a = 0 ∧ CK b = 0 then combG gWithout (walkL a b) else []
theorem and_ev (a b : List Int) (ha : a.length ≤ 1000000) (hb : b.length ≤ 1000000) : Ev (fun k => postings_And.f k a b) (AN a b) := by
  simp only [postings_And.f]
  refine Ev.bind (valid2_ev a b (by omega) (by omega)) ?_
  unfold AN
  by_cases h : CK a = 0 ∧ CK b = 0
  · simp only [h, and_self, decide_true, if_true, combined_and.f, combF, if_pos (show a.length + b.length < 17592186044416 by omega), Option.bind_some]
    exact Ev.now _
  · simp only [h, decide_false, if_neg (show ¬ (false = true) by decide), if_false]
    exact Ev.now _
theorem or_ev (a b : List Int) (ha : a.length ≤ 1000000) (hb : b.length ≤ 1000000) : Ev (fun k => postings_Or.f k a b) (OR a b) := by
  simp only [postings_Or.f]
  refine Ev.bind (valid2_ev a b (by omega) (by omega)) ?_
  unfold OR
  by_cases h : CK a = 0 ∧ CK b = 0
  · simp only [h, and_self, decide_true, if_true, combined_or.f, combF, if_pos (show a.length + b.length < 17592186044416 by omega), Option.bind_some]
    exact Ev.now _
  · simp only [h, decide_false, if_neg (show ¬ (false = true) by decide), if_false]
    exact Ev.now _
theorem without_ev (a b : List Int) (ha : a.length ≤ 1000000) (hb : b.length ≤ 1000000) : Ev (fun k => postings_Without.f k a b) (WO a b) := by
  simp only [postings_Without.f]
  refine Ev.bind (valid2_ev a b (by omega) (by omega)) ?_
  unfold WO
  by_cases h : CK a = 0 ∧ CK b = 0
  · simp only [h, and_self, decide_true, if_true, combined_without.f, combF, if_pos (show a.length + b.length < 17592186044416 by omega), Option.bind_some]
    exact Ev.now _
  · simp only [h, decide_false, if_neg (show ¬ (false = true) by decide), if_false]
    exact Ev.now _
/-! ## The reference -/
theorem and_filter {a b : List Int} (ha : VL a) (hb : VL b) : combG gAnd (walkL a b) = a.filter (fun y => decide (y ∈ b)) :=
  sorted_ext _ _ (comb_sorted _ ha.2 hb.2) (ha.2.sublist List.filter_sublist) (fun x => by
    rw [comb_mem _ ha.2 hb.2, List.mem_filter]
    simp only [gAnd, Bool.and_eq_true, decide_eq_true_eq]
    constructor
    · rintro ⟨_, h⟩; exact h
    · intro h; exact ⟨.inl h.1, h⟩)
theorem without_filter {a b : List Int} (ha : VL a) (hb : VL b) : combG gWithout (walkL a b) = a.filter (fun y => !decide (y ∈ b)) :=
  sorted_ext _ _ (comb_sorted _ ha.2 hb.2) (ha.2.sublist List.filter_sublist) (fun x => by
    rw [comb_mem _ ha.2 hb.2, List.mem_filter]
    simp only [gWithout, Bool.and_eq_true, decide_eq_true_eq]
    constructor
    · rintro ⟨_, h⟩; exact h
    · intro h; exact ⟨.inl h.1, h⟩)
end Go.Proofs.Ytdmdhpnlalekfaa.VB
