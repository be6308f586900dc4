/- Plain facts on sorted lists of strings: the dictionary of a column. No condition beyond those in the statements. -/
import Derived.Test.YtfklecicddpcjaaHZ
import Derived.Test.YtfklecicddpcjaaHR
import Derived.Lib.SlicesCompact
namespace Go.Proofs.Ytfklecicddpcjaa.DK
open Go.RowKit Go.Proofs.Ytfklecicddpcjaa.A Go.Proofs.Ytfklecicddpcjaa.Hand Go.Proofs.YtfklecicddpcjaaW.PrintWords Go.Proofs.YtfklecicddpcjaaW.PrintLast Go.Proofs.YtfklecicddpcjaaW.PrintMore
set_option linter.unusedVariables false
set_option linter.unusedSimpArgs false
theorem less_eq : ∀ (x y : List UInt8), Op.bytesLess x y = decide (x < y)
  | [], [] => by simp [Op.bytesLess]
  | _ :: _, [] => by simp [Op.bytesLess]
  | [], _ :: _ => by simp [Op.bytesLess]
  | a :: x, b :: y => by
    rw [Op.bytesLess, less_eq x y]
    simp only [List.cons_lt_cons_iff]
    by_cases h1 : a < b <;> by_cases h2 : a = b <;> by_cases h3 : x < y <;> simp [h1, h2, h3]
abbrev bl (s : ByteArray) : List UInt8 := s.data.toList
theorem toL (s : ByteArray) : s.toList = bl s := ByteArray.toList_eq s
theorem bl_inj {a b : ByteArray} (h : bl a = bl b) : a = b := by
  cases a with | mk a => cases b with | mk b => exact congrArg ByteArray.mk (Array.toList_inj.1 h)
theorem tl_inj {a b : ByteArray} (h : a.toList = b.toList) : a = b := bl_inj (by rw [← toL, ← toL]; exact h)
theorem tri (a b : List UInt8) : a < b ∨ a = b ∨ b < a := by
  by_cases h1 : a < b
  · exact .inl h1
  · by_cases h2 : b < a
    · exact .inr (.inr h2)
    · exact .inr (.inl (List.le_antisymm (List.not_lt.1 h2) (List.not_lt.1 h1)))
def hasB (x : ByteArray) (l : List ByteArray) : Bool := l.any fun y => decide (bl y = bl x)
theorem hasB_iff {x : ByteArray} {l : List ByteArray} : hasB x l = true ↔ x ∈ l := by
  unfold hasB
  rw [List.any_eq_true]
  constructor
  · rintro ⟨y, hy, h⟩
    rw [← bl_inj (of_decide_eq_true h)]; exact hy
  · intro h
    exact ⟨x, h, decide_eq_true rfl⟩
/-- Strictly ascending. -/
def Asc (l : List ByteArray) : Prop := l.Pairwise fun a b => bl a < bl b
theorem asc_ext : ∀ {l m : List ByteArray}, Asc l → Asc m → (∀ x, x ∈ l ↔ x ∈ m) → l = m
  | [], [], _, _, _ => rfl
  | [], y :: m, _, _, h => by have := (h y).2 (by simp); simp at this
  | x :: l, [], _, _, h => by have := (h x).1 (by simp); simp at this
  | x :: l, y :: m, hl, hm, h => by
    obtain ⟨hx, hl'⟩ := List.pairwise_cons.1 hl
    obtain ⟨hy, hm'⟩ := List.pairwise_cons.1 hm
    have e : x = y := by
      rcases List.mem_cons.1 ((h x).1 (by simp)) with e | e
      · exact e
      · rcases List.mem_cons.1 ((h y).2 (by simp)) with e' | e'
        · exact e'.symm
        · exact absurd (hx y e') (List.lt_asymm (hy x e))
    subst e
    rw [asc_ext hl' hm' (fun z => ?_)]
    constructor
    · intro hz
      rcases List.mem_cons.1 ((h z).1 (by simp [hz])) with e | e
      · subst e; exact absurd (hx z hz) (List.lt_irrefl _)
      · exact e
    · intro hz
      rcases List.mem_cons.1 ((h z).2 (by simp [hz])) with e | e
      · subst e; exact absurd (hy z hz) (List.lt_irrefl _)
      · exact e
/-! ### the reference's dictionary -/
theorem posB_split (x : ByteArray) : ∀ l : List ByteArray, Asc l → (∀ y ∈ l.take (posB x l), bl y < bl x) ∧ (∀ y ∈ l.drop (posB x l), ¬ bl y < bl x)
  | [], _ => ⟨by simp [posB], by simp [posB]⟩
  | y :: r, h => by
    obtain ⟨hy, hr⟩ := List.pairwise_cons.1 h
    obtain ⟨i1, i2⟩ := posB_split x r hr
    unfold posB
    by_cases c : Op.bytesLess y.toList x.toList = true
    · rw [if_pos c, List.take_succ_cons, List.drop_succ_cons]
      refine ⟨fun z hz => ?_, i2⟩
      rcases List.mem_cons.1 hz with e | e
      · subst e; rw [less_eq, toL, toL] at c; exact of_decide_eq_true c
      · exact i1 z e
    · rw [if_neg c]
      refine ⟨by simp, fun z hz => ?_⟩
      have c2 : ¬ bl y < bl x := by rw [less_eq, toL, toL] at c; simpa using c
      rcases List.mem_cons.1 (by simpa using hz) with e | e
      · subst e; exact c2
      · intro hlt; exact c2 (List.lt_trans (hy z e) hlt)
theorem insS_mem (x : ByteArray) (l : List ByteArray) (z : ByteArray) : z ∈ insS x l ↔ z = x ∨ z ∈ l := by
  unfold insS
  rw [List.mem_append, List.mem_cons]
  constructor
  · rintro (h | h | h)
    · exact .inr (List.mem_of_mem_take h)
    · exact .inl h
    · exact .inr (List.mem_of_mem_drop h)
  · rintro (h | h)
    · exact .inr (.inl h)
    · rw [← List.take_append_drop (posB x l) l, List.mem_append] at h
      exact h.elim .inl (fun h => .inr (.inr h))
theorem insS_asc {x : ByteArray} {l : List ByteArray} (h : Asc l) (hx : x ∉ l) : Asc (insS x l) := by
  obtain ⟨h1, h2⟩ := posB_split x l h
  have hs : Asc (l.take (posB x l) ++ l.drop (posB x l)) := by rw [List.take_append_drop]; exact h
  obtain ⟨p1, p2, p3⟩ := List.pairwise_append.1 hs
  unfold insS Asc
  refine List.pairwise_append.2 ⟨p1, List.pairwise_cons.2 ⟨fun y hy => ?_, p2⟩, fun a ha b hb => ?_⟩
  · rcases tri (bl x) (bl y) with h | h | h
    · exact h
    · exact absurd (bl_inj h ▸ List.mem_of_mem_drop hy) hx
    · exact absurd h (h2 y hy)
  · rcases List.mem_cons.1 hb with e | e
    · subst e; exact h1 a ha
    · exact p3 a ha b e
/-- The different strings of a list, in ascending order, behind those of another one. -/
def dicF : List ByteArray → List ByteArray → List ByteArray
  | [], out => out
  | x :: r, out => dicF r (if hasB x out = true then out else insS x out)
def dic (l : List ByteArray) : List ByteArray := dicF l []
theorem dicF_spec : ∀ (l out : List ByteArray), Asc out → Asc (dicF l out) ∧ ∀ z, z ∈ dicF l out ↔ z ∈ l ∨ z ∈ out
  | [], out, h => ⟨h, fun z => by simp [dicF]⟩
  | x :: r, out, h => by
    unfold dicF
    by_cases c : x ∈ out
    · rw [if_pos (hasB_iff.2 c)]
      obtain ⟨h1, h2⟩ := dicF_spec r out h
      refine ⟨h1, fun z => ?_⟩
      rw [h2, List.mem_cons]
      constructor
      · rintro (h | h)
        · exact .inl (.inr h)
        · exact .inr h
      · rintro ((h | h) | h)
        · exact .inr (h ▸ c)
        · exact .inl h
        · exact .inr h
    · rw [if_neg (fun h => c (hasB_iff.1 h))]
      obtain ⟨h1, h2⟩ := dicF_spec r _ (insS_asc h c)
      refine ⟨h1, fun z => ?_⟩
      rw [h2, insS_mem, List.mem_cons]
      constructor
      · rintro (h | h | h)
        · exact .inl (.inr h)
        · exact .inl (.inl h)
        · exact .inr h
      · rintro ((h | h) | h)
        · exact .inr (.inl h)
        · exact .inl h
        · exact .inr (.inr h)
theorem dic_asc (l : List ByteArray) : Asc (dic l) := (dicF_spec l [] List.Pairwise.nil).1
theorem mem_dic {l : List ByteArray} {z : ByteArray} : z ∈ dic l ↔ z ∈ l := by
  have h := (dicF_spec l [] List.Pairwise.nil).2 z
  unfold dic
  rw [h]; simp
/-! ### the program's dictionary -/
theorem bys_bl (s : ByteArray) : bys (bl s) = s := rfl
theorem bl_bys (l : List UInt8) : bl (bys l) = l := rfl
theorem sorted_le (l : List ByteArray) : ((ubs l).mergeSort fun x y => decide (x ≤ y)).Pairwise (fun x y => x ≤ y) := by
  have h := List.pairwise_mergeSort (le := fun x y : List UInt8 => decide (x ≤ y)) (fun a b c h1 h2 => by simp only [decide_eq_true_eq] at *; exact List.le_trans h1 h2) (fun a b => by simp only [Bool.or_eq_true, decide_eq_true_eq]; exact List.le_total a b) (ubs l)
  exact h.imp (fun h => of_decide_eq_true h)
theorem compact_spec (zs : List (List UInt8)) (h : zs.Pairwise (fun x y => x ≤ y)) : (Lib.compact zs).Pairwise (fun x y => x < y) ∧ ∀ z, z ∈ Lib.compact zs ↔ z ∈ zs := by
  have at_ : ∀ i (hi : i < zs.length), zs.toArray[i]! = zs[i] := fun i hi => by simp [hi]
  constructor
  · unfold Lib.compact Lib.compactUpTo
    rw [List.pairwise_map, List.pairwise_filter]
    refine List.Pairwise.imp_of_mem (R := fun a b => a < b) (fun {a b} ha hb hlt _ hk => ?_) List.pairwise_lt_range
    have hb' := List.mem_range.1 hb
    rw [at_ a (by omega), at_ b hb']
    have hne : zs[b] ≠ zs[b - 1] := by
      simp only [Lib.keeps] at hk
      rw [at_ b hb', at_ (b - 1) (by omega)] at hk
      have : b ≠ 0 := by omega
      simpa [this] using hk
    have h1 : zs[a] ≤ zs[b - 1] := by
      rcases Nat.lt_or_ge a (b - 1) with h' | h'
      · exact List.pairwise_iff_getElem.1 h a (b - 1) (by omega) (by omega) h'
      · have e : a = b - 1 := by omega
        subst e; exact List.le_refl _
    have h2 : zs[b - 1] ≤ zs[b] := List.pairwise_iff_getElem.1 h (b - 1) b (by omega) (by omega) (by omega)
    have h3 : zs[b - 1] < zs[b] := by
      rcases tri zs[b - 1] zs[b] with h' | h' | h'
      · exact h'
      · exact absurd h'.symm hne
      · exact absurd h' (List.not_lt.2 h2)
    exact List.lt_of_le_of_lt h1 h3
  · intro z
    unfold Lib.compact Lib.compactUpTo
    rw [List.mem_map]
    constructor
    · rintro ⟨i, hi, rfl⟩
      have := List.mem_range.1 (List.mem_filter.1 hi).1
      rw [at_ i this]; exact List.getElem_mem _
    · intro hz
      obtain ⟨i, hi, rfl⟩ := List.getElem_of_mem hz
      have key : ∀ n i (hi : i < zs.length), i ≤ n → ∃ j, j < zs.length ∧ Lib.keeps zs.toArray j = true ∧ zs.toArray[j]! = zs[i] := by
        intro n
        induction n with
        | zero =>
          intro i hi h0
          exact ⟨i, hi, by have : i = 0 := by omega
                           subst this; simp [Lib.keeps], at_ i hi⟩
        | succ n ih =>
          intro i hi h0
          by_cases hk : Lib.keeps zs.toArray i = true
          · exact ⟨i, hi, hk, at_ i hi⟩
          · have hpos : 0 < i := by
              rcases Nat.eq_zero_or_pos i with e | e
              · subst e; simp [Lib.keeps] at hk
              · exact e
            have heq : zs[i] = zs[i - 1] := by
              simp only [Lib.keeps] at hk
              rw [at_ i hi, at_ (i - 1) (by omega)] at hk
              have : i ≠ 0 := by omega
              simpa [this] using hk
            obtain ⟨j, h1, h2, h3⟩ := ih (i - 1) (by omega) (by omega)
            exact ⟨j, h1, h2, h3.trans heq.symm⟩
      obtain ⟨j, h1, h2, h3⟩ := key i i hi (Nat.le_refl _)
      exact ⟨j, List.mem_filter.2 ⟨List.mem_range.2 h1, h2⟩, h3⟩
theorem prog_dic (l : List ByteArray) : compB (sortB l) = dic l := by
  have hu : ubs (sortB l) = (ubs l).mergeSort fun x y => decide (x ≤ y) := by
    unfold sortB ubs
    rw [List.map_map]
    conv => rhs; rw [← List.map_id (List.mergeSort _ _)]
    apply List.map_congr_left
    intro x _
    rfl
  obtain ⟨h1, h2⟩ := compact_spec (ubs (sortB l)) (by rw [hu]; exact sorted_le l)
  refine asc_ext ?_ (dic_asc l) (fun z => ?_)
  · unfold Asc compB
    rw [List.pairwise_map]
    exact h1.imp (fun h => h)
  · rw [mem_dic]
    unfold compB
    rw [List.mem_map]
    constructor
    · rintro ⟨y, hy, rfl⟩
      have := (h2 y).1 hy
      rw [hu, List.mem_mergeSort] at this
      obtain ⟨x, hx, rfl⟩ := List.mem_map.1 this
      exact hx
    · intro hz
      exact ⟨bl z, (h2 _).2 (by rw [hu, List.mem_mergeSort]; exact List.mem_map.2 ⟨z, hz, rfl⟩), rfl⟩
end Go.Proofs.Ytfklecicddpcjaa.DK
