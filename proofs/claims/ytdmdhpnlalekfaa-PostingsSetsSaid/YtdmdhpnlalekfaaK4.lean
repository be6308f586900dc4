/- Plain facts on lists of numbers: what And, Or, Without of the postings chapter and And, Or, Without, Merge of its reference answer. No condition beyond those in the statements. -/
import Derived.Test.YtdmdhpnlalekfaaK2
namespace Go.Proofs.Ytdmdhpnlalekfaa.VB
open Go.RowKit Go.Proofs.Ytdmdhpnlalekfaa.P Go.Proofs.Ytdmdhpnlalekfaa.A Go.Proofs.Ytdmdhpnlalekfaa.Hand Go.Proofs.YtdmdhpnlalekfaaW.PrintWords Go.Proofs.YtdmdhpnlalekfaaW.PrintLast Go.Proofs.YtdmdhpnlalekfaaW.PrintMore
/-- Two strictly ascending lists with the same numbers are the same. -/
theorem sorted_ext : ∀ (a b : List Int), a.Pairwise (· < ·) → b.Pairwise (· < ·) → (∀ x, x ∈ a ↔ x ∈ b) → a = b
  | [], [], _, _, _ => rfl
  | [], y :: b, _, _, h => by have := (h y).2 (by simp); simp at this
  | x :: a, [], _, _, h => by have := (h x).1 (by simp); simp at this
  | x :: a, y :: b, ha, hb, h => by
    rw [List.pairwise_cons] at ha hb
    have hxy : x = y := by
      have h1 := (h x).1 (by simp)
      have h2 := (h y).2 (by simp)
      rcases List.mem_cons.1 h1 with h1 | h1
      · exact h1
      · rcases List.mem_cons.1 h2 with h2 | h2
        · exact h2.symm
        · have := hb.1 x h1; have := ha.1 y h2; omega
    subst hxy
    rw [sorted_ext a b ha.2 hb.2 (fun z => by
      constructor
      · intro hz
        have := ha.1 z hz
        rcases List.mem_cons.1 ((h z).1 (by simp [hz])) with rfl | h'
        · omega
        · exact h'
      · intro hz
        have := hb.1 z hz
        rcases List.mem_cons.1 ((h z).2 (by simp [hz])) with rfl | h'
        · omega
        · exact h')]
structure WalkOK (a b : List Int) (L : List (Int × Bool × Bool)) : Prop where
  sorted : (L.map (·.1)).Pairwise (· < ·)
  each : ∀ e ∈ L, e.2.1 = decide (e.1 ∈ a) ∧ e.2.2 = decide (e.1 ∈ b) ∧ (e.1 ∈ a ∨ e.1 ∈ b)
  all : ∀ x, x ∈ a ∨ x ∈ b → ∃ e ∈ L, e.1 = x
theorem WalkOK.cons {a b a' b' : List Int} {L : List (Int × Bool × Bool)} {x : Int} {p q : Bool} (h : WalkOK a' b' L)
    (ha : ∀ y, y ∈ a ↔ (y = x ∧ p = true) ∨ y ∈ a') (hb : ∀ y, y ∈ b ↔ (y = x ∧ q = true) ∨ y ∈ b') (la : ∀ y ∈ a', x < y) (lb : ∀ y ∈ b', x < y) (hpq : p = true ∨ q = true) : WalkOK a b ((x, p, q) :: L) := by
  have xa : decide (x ∈ a) = p := by
    cases p with
    | true => exact decide_eq_true ((ha x).2 (.inl ⟨rfl, rfl⟩))
    | false => exact decide_eq_false (fun h' => by rcases (ha x).1 h' with ⟨_, h'⟩ | h'; · cases h'
                                                   · have := la x h'; omega)
  have xb : decide (x ∈ b) = q := by
    cases q with
    | true => exact decide_eq_true ((hb x).2 (.inl ⟨rfl, rfl⟩))
    | false => exact decide_eq_false (fun h' => by rcases (hb x).1 h' with ⟨_, h'⟩ | h'; · cases h'
                                                   · have := lb x h'; omega)
  refine ⟨?_, ?_, ?_⟩
  · rw [List.map_cons, List.pairwise_cons]
    refine ⟨fun y hy => ?_, h.sorted⟩
    obtain ⟨e, he, rfl⟩ := List.mem_map.1 hy
    rcases (h.each e he).2.2 with h' | h'
    · exact la _ h'
    · exact lb _ h'
  · intro e he
    rcases List.mem_cons.1 he with rfl | he
    · refine ⟨xa.symm, xb.symm, ?_⟩
      rcases hpq with hp | hq
      · exact .inl ((ha x).2 (.inl ⟨rfl, hp⟩))
      · exact .inr ((hb x).2 (.inl ⟨rfl, hq⟩))
    · obtain ⟨h1, h2, h3⟩ := h.each e he
      have hne : e.1 ≠ x := by
        rcases h3 with h' | h'
        · have := la _ h'; omega
        · have := lb _ h'; omega
      have ea : e.1 ∈ a ↔ e.1 ∈ a' := by rw [ha]; simp [hne]
      have eb : e.1 ∈ b ↔ e.1 ∈ b' := by rw [hb]; simp [hne]
      exact ⟨by rw [h1]; simp [ea], by rw [h2]; simp [eb], by rw [ea, eb]; exact h3⟩
  · intro y hy
    by_cases hyx : y = x
    · exact ⟨_, List.mem_cons_self, hyx.symm⟩
    · have : y ∈ a' ∨ y ∈ b' := by
        rcases hy with hy | hy
        · rcases (ha y).1 hy with ⟨h', _⟩ | h'
          · exact absurd h' hyx
          · exact .inl h'
        · rcases (hb y).1 hy with ⟨h', _⟩ | h'
          · exact absurd h' hyx
          · exact .inr h'
      obtain ⟨e, he, h'⟩ := h.all y this
      exact ⟨e, List.mem_cons_of_mem _ he, h'⟩
theorem walk_ok : ∀ (n : Nat) (a b : List Int), a.length + b.length ≤ n → a.Pairwise (· < ·) → b.Pairwise (· < ·) → WalkOK a b (walkL a b) := by
  intro n
  induction n with
  | zero =>
    intro a b h _ _
    obtain rfl : a = [] := List.eq_nil_of_length_eq_zero (by omega)
    obtain rfl : b = [] := List.eq_nil_of_length_eq_zero (by omega)
    exact ⟨by simp [walkL_nil], by simp [walkL_nil], by simp⟩
  | succ n ih =>
    intro a b h ha hb
    match a, b, h, ha, hb with
    | [], [], _, _, _ => exact ⟨by simp [walkL_nil], by simp [walkL_nil], by simp⟩
    | [], y :: b, h, ha, hb =>
      rw [walkL_r]
      rw [List.pairwise_cons] at hb
      exact (ih [] b (by simp at h ⊢; omega) ha hb.2).cons (by simp) (by simp) (by simp) hb.1 (.inr rfl)
    | x :: a, [], h, ha, hb =>
      rw [walkL_l]
      rw [List.pairwise_cons] at ha
      exact (ih a [] (by simp at h ⊢; omega) ha.2 hb).cons (by simp) (by simp) ha.1 (by simp) (.inl rfl)
    | x :: a, y :: b, h, ha, hb =>
      have ha' := List.pairwise_cons.1 ha
      have hb' := List.pairwise_cons.1 hb
      rcases Int.lt_trichotomy x y with hlt | heq | hlt
      · rw [walkL_lt a b hlt]
        refine (ih a (y :: b) (by simp at h ⊢; omega) ha'.2 hb).cons (by simp) (by simp) ha'.1 (fun z hz => ?_) (.inl rfl)
        rcases List.mem_cons.1 hz with rfl | hz
        · exact hlt
        · have := hb'.1 z hz; omega
      · subst heq
        rw [walkL_eq x a b]
        exact (ih a b (by simp at h ⊢; omega) ha'.2 hb'.2).cons (by simp) (by simp) ha'.1 hb'.1 (.inl rfl)
      · rw [walkL_gt a b hlt]
        refine (ih (x :: a) b (by simp at h ⊢; omega) ha hb'.2).cons (by simp) (by simp) (fun z hz => ?_) hb'.1 (.inr rfl)
        rcases List.mem_cons.1 hz with rfl | hz
        · exact hlt
        · have := ha'.1 z hz; omega
theorem comb_sorted (g : Bool → Bool → Bool) {a b : List Int} (ha : a.Pairwise (· < ·)) (hb : b.Pairwise (· < ·)) : (combG g (walkL a b)).Pairwise (· < ·) := by
  have h := (walk_ok _ a b (Nat.le_refl _) ha hb).sorted
  unfold combG
  exact h.sublist (List.Sublist.map _ (List.filter_sublist))
theorem comb_mem (g : Bool → Bool → Bool) {a b : List Int} (ha : a.Pairwise (· < ·)) (hb : b.Pairwise (· < ·)) (x : Int) : x ∈ combG g (walkL a b) ↔ (x ∈ a ∨ x ∈ b) ∧ g (decide (x ∈ a)) (decide (x ∈ b)) = true := by
  have h := walk_ok _ a b (Nat.le_refl _) ha hb
  unfold combG
  rw [List.mem_map]
  constructor
  · rintro ⟨e, he, rfl⟩
    rw [List.mem_filter] at he
    obtain ⟨h1, h2, h3⟩ := h.each e he.1
    exact ⟨h3, by rw [← h1, ← h2]; exact he.2⟩
  · rintro ⟨h1, h2⟩
    obtain ⟨e, he, rfl⟩ := h.all x h1
    obtain ⟨h3, h4, _⟩ := h.each e he
    exact ⟨e, List.mem_filter.2 ⟨he, by rw [h3, h4]; exact h2⟩, rfl⟩
theorem comb_len (g : Bool → Bool → Bool) (a b : List Int) : (combG g (walkL a b)).length ≤ a.length + b.length := by
  have h1 := walkL_len a b
  have h2 := combG_len g (walkL a b) (walkL a b).length
  rw [List.take_length] at h2
  omega
/-- The three functions' answers. -/
def AN (a b : List Int) : List Int := if CK a = 0 ∧ CK b = 0 then combG gAnd (walkL a b) else []
def OR (a b : List Int) : List Int := if CK a = 0 ∧ CK b = 0 then combG gOr (walkL a b) else []
def WO (a b : List Int) : List Int := if CK a = 0 ∧ CK b = 0 then combG gWithout (walkL a b) else []
theorem and_ev (a b : List Int) (ha : a.length ≤ 1000000) (hb : b.length ≤ 1000000) : Ev (fun k => postings_And.f k a b) (AN a b) := by
  simp only [postings_And.f]
  refine Ev.bind (valid2_ev a b (by omega) (by omega)) ?_
  unfold AN
  by_cases h : CK a = 0 ∧ CK b = 0
  · simp only [h, and_self, decide_true, if_true, combined_and.f, combF, if_pos (show a.length + b.length < 17592186044416 by omega), Option.bind_some]
    exact Ev.now _
  · simp only [h, decide_false, if_neg (show ¬ (false = true) by decide), if_false]
    exact Ev.now _
theorem or_ev (a b : List Int) (ha : a.length ≤ 1000000) (hb : b.length ≤ 1000000) : Ev (fun k => postings_Or.f k a b) (OR a b) := by
  simp only [postings_Or.f]
  refine Ev.bind (valid2_ev a b (by omega) (by omega)) ?_
  unfold OR
  by_cases h : CK a = 0 ∧ CK b = 0
  · simp only [h, and_self, decide_true, if_true, combined_or.f, combF, if_pos (show a.length + b.length < 17592186044416 by omega), Option.bind_some]
    exact Ev.now _
  · simp only [h, decide_false, if_neg (show ¬ (false = true) by decide), if_false]
    exact Ev.now _
theorem without_ev (a b : List Int) (ha : a.length ≤ 1000000) (hb : b.length ≤ 1000000) : Ev (fun k => postings_Without.f k a b) (WO a b) := by
  simp only [postings_Without.f]
  refine Ev.bind (valid2_ev a b (by omega) (by omega)) ?_
  unfold WO
  by_cases h : CK a = 0 ∧ CK b = 0
  · simp only [h, and_self, decide_true, if_true, combined_without.f, combF, if_pos (show a.length + b.length < 17592186044416 by omega), Option.bind_some]
    exact Ev.now _
  · simp only [h, decide_false, if_neg (show ¬ (false = true) by decide), if_false]
    exact Ev.now _
/-! ## The reference -/
theorem has_l0 (l : List Int) (x : Int) (hl : l.length ≤ 1000000) : ∀ (d i : Nat), i + d = l.length → Ev (fun k => lookoutref08_Has.l0 k l x (i : Int)) (decide (x ∈ l.drop i)) := by
  intro d
  induction d with
  | zero =>
    intro i h
    rw [List.drop_eq_nil_of_le (by omega), decide_eq_false (by simp)]
    exact Ev.step (fun k => by rw [lookoutref08_Has.l0, if_neg (by omega)]) (Ev.now _)
  | succ d ih =>
    intro i h
    have hw : wrap64 ((i : Int) + 1) = ((i + 1 : Nat) : Int) := by unfold wrap64; omega
    rw [drop_rd' (by omega : i < l.length)]
    by_cases hx : rd l i = x
    · rw [decide_eq_true (by simp [hx])]
      exact Ev.step (fun k => by rw [lookoutref08_Has.l0, if_pos (by omega), if_pos (by omega), if_pos hx]) (Ev.now _)
    · have e : (x ∈ rd l i :: l.drop (i + 1)) ↔ x ∈ l.drop (i + 1) := by simp [Ne.symm hx]
      rw [show decide (x ∈ rd l i :: l.drop (i + 1)) = decide (x ∈ l.drop (i + 1)) by simp [e]]
      exact Ev.step (fun k => by rw [lookoutref08_Has.l0, if_pos (by omega), if_pos (by omega), if_neg hx, hw]) (ih (i + 1) (by omega))
theorem has_ev (l : List Int) (x : Int) (hl : l.length ≤ 1000000) : Ev (fun k => lookoutref08_Has.f k l x) (decide (x ∈ l)) := has_l0 l x hl l.length 0 (by omega)
theorem andRef_l0 (a b : List Int) (ha : a.length ≤ 1000000) (hb : b.length ≤ 1000000) : ∀ (d i : Nat) (acc : List Int), i + d = a.length → acc.length ≤ i → Ev (fun k => lookoutref08_And.l0 k a b acc (i : Int)) (acc ++ (a.drop i).filter (fun y => decide (y ∈ b))) := by
  intro d
  induction d with
  | zero =>
    intro i acc h hacc
    rw [List.drop_eq_nil_of_le (by omega), List.filter_nil, List.append_nil]
    exact Ev.step (fun k => by rw [lookoutref08_And.l0, if_neg (by omega)]) (Ev.now _)
  | succ d ih =>
    intro i acc h hacc
    have hw : wrap64 ((i : Int) + 1) = ((i + 1 : Nat) : Int) := by unfold wrap64; omega
    rw [drop_rd' (by omega : i < a.length)]
    refine Ev.step (fun k => by rw [lookoutref08_And.l0, if_pos (by omega), if_pos (by omega), hw]) (Ev.bind (has_ev b (rd a i) hb) ?_)
    by_cases hx : rd a i ∈ b
    · simp only [decide_eq_true hx, if_true, if_pos (show acc.length < 17592186044416 by omega)]
      rw [List.filter_cons_of_pos (by simpa using hx)]
      have := ih (i + 1) (acc ++ [rd a i]) (by omega) (by rw [List.length_append, List.length_singleton]; omega)
      rw [List.append_assoc] at this
      exact this
    · simp only [decide_eq_false hx, if_neg (show ¬ (false = true) by decide)]
      rw [List.filter_cons_of_neg (by simpa using hx)]
      exact ih (i + 1) acc (by omega) (by omega)
theorem withoutRef_l0 (a b : List Int) (ha : a.length ≤ 1000000) (hb : b.length ≤ 1000000) : ∀ (d i : Nat) (acc : List Int), i + d = a.length → acc.length ≤ i → Ev (fun k => lookoutref08_Without.l0 k a b acc (i : Int)) (acc ++ (a.drop i).filter (fun y => !decide (y ∈ b))) := by
  intro d
  induction d with
  | zero =>
    intro i acc h hacc
    rw [List.drop_eq_nil_of_le (by omega), List.filter_nil, List.append_nil]
    exact Ev.step (fun k => by rw [lookoutref08_Without.l0, if_neg (by omega)]) (Ev.now _)
  | succ d ih =>
    intro i acc h hacc
    have hw : wrap64 ((i : Int) + 1) = ((i + 1 : Nat) : Int) := by unfold wrap64; omega
    rw [drop_rd' (by omega : i < a.length)]
    refine Ev.step (fun k => by rw [lookoutref08_Without.l0, if_pos (by omega), if_pos (by omega), hw]) (Ev.bind (has_ev b (rd a i) hb) ?_)
    by_cases hx : rd a i ∈ b
    · simp only [decide_eq_true hx, if_true]
      rw [List.filter_cons_of_neg (by simpa using hx)]
      exact ih (i + 1) acc (by omega) (by omega)
    · simp only [decide_eq_false hx, if_neg (show ¬ (false = true) by decide), if_pos (show acc.length < 17592186044416 by omega)]
      rw [List.filter_cons_of_pos (by simpa using hx)]
      have := ih (i + 1) (acc ++ [rd a i]) (by omega) (by rw [List.length_append, List.length_singleton]; omega)
      rw [List.append_assoc] at this
      exact this
theorem and_filter {a b : List Int} (ha : VL a) (hb : VL b) : combG gAnd (walkL a b) = a.filter (fun y => decide (y ∈ b)) :=
  sorted_ext _ _ (comb_sorted _ ha.2 hb.2) (ha.2.sublist List.filter_sublist) (fun x => by
    rw [comb_mem _ ha.2 hb.2, List.mem_filter]
    simp only [gAnd, Bool.and_eq_true, decide_eq_true_eq]
    constructor
    · rintro ⟨_, h⟩; exact h
    · intro h; exact ⟨.inl h.1, h⟩)
theorem without_filter {a b : List Int} (ha : VL a) (hb : VL b) : combG gWithout (walkL a b) = a.filter (fun y => !decide (y ∈ b)) :=
  sorted_ext _ _ (comb_sorted _ ha.2 hb.2) (ha.2.sublist List.filter_sublist) (fun x => by
    rw [comb_mem _ ha.2 hb.2, List.mem_filter]
    simp only [gWithout, Bool.and_eq_true, decide_eq_true_eq]
    constructor
    · rintro ⟨_, h⟩; exact h
    · intro h; exact ⟨.inl h.1, h⟩)
theorem andRef_ev (a b : List Int) (ha : a.length ≤ 1000000) (hb : b.length ≤ 1000000) : Ev (fun k => lookoutref08_And.f k a b) (AN a b) := by
  simp only [lookoutref08_And.f, Option.bind_some]
  refine Ev.bind (checkRef_ev a (by omega)) ?_
  unfold AN
  have ht : Ev (fun k => lookoutref08_And.j0 k a b [] true) [] := Ev.step (fun k => by rw [lookoutref08_And.j0, if_pos rfl]) (Ev.now _)
  by_cases h1 : CK a = 0
  · simp only [h1, if_true, true_and]
    refine Ev.bind (checkRef_ev b (by omega)) ?_
    by_cases h2 : CK b = 0
    · simp only [h2, if_true, bne_self_eq_false]
      rw [and_filter ((CK_zero a).1 h1) ((CK_zero b).1 h2)]
      exact Ev.step (fun k => by rw [lookoutref08_And.j0, if_neg (by decide)]; rfl) (andRef_l0 a b ha hb a.length 0 [] (by omega) (Nat.le_refl _))
    · simp only [h2, if_false, bne_iff_ne.2 h2]
      exact ht
  · simp only [h1, if_false, false_and]
    exact ht
theorem withoutRef_ev (a b : List Int) (ha : a.length ≤ 1000000) (hb : b.length ≤ 1000000) : Ev (fun k => lookoutref08_Without.f k a b) (WO a b) := by
  simp only [lookoutref08_Without.f, Option.bind_some]
  refine Ev.bind (checkRef_ev a (by omega)) ?_
  unfold WO
  have ht : Ev (fun k => lookoutref08_Without.j0 k a b [] true) [] := Ev.step (fun k => by rw [lookoutref08_Without.j0, if_pos rfl]) (Ev.now _)
  by_cases h1 : CK a = 0
  · simp only [h1, if_true, true_and]
    refine Ev.bind (checkRef_ev b (by omega)) ?_
    by_cases h2 : CK b = 0
    · simp only [h2, if_true, bne_self_eq_false]
      rw [without_filter ((CK_zero a).1 h1) ((CK_zero b).1 h2)]
      exact Ev.step (fun k => by rw [lookoutref08_Without.j0, if_neg (by decide)]; rfl) (withoutRef_l0 a b ha hb a.length 0 [] (by omega) (Nat.le_refl _))
    · simp only [h2, if_false, bne_iff_ne.2 h2]
      exact ht
  · simp only [h1, if_false, false_and]
    exact ht
end Go.Proofs.Ytdmdhpnlalekfaa.VB
