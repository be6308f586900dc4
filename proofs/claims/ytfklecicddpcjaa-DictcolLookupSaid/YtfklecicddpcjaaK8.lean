/- Plain facts on columns of strings: Contains, IsSorted, the indices of all strings. No condition beyond those in the statements. -/
import Derived.Test.YtfklecicddpcjaaKD
import Derived.Test.YtfklecicddpcjaaHOwn
import Derived.Test.YtfklecicddpcjaaPB
import Derived.Test.YtfklecicddpcjaaQA
namespace Go.Proofs.Ytfklecicddpcjaa.DK
open Go.RowKit Go.Proofs.Ytfklecicddpcjaa.VB Go.Proofs.Ytfklecicddpcjaa.Q Go.Proofs.Ytfklecicddpcjaa.P Go.Proofs.Ytfklecicddpcjaa.A Go.Proofs.Ytfklecicddpcjaa.Hand Go.Proofs.YtfklecicddpcjaaW.PrintWords Go.Proofs.YtfklecicddpcjaaW.PrintLast Go.Proofs.YtfklecicddpcjaaW.PrintMore
set_option linter.unusedVariables false
set_option linter.unusedSimpArgs false
theorem esz {l : List ByteArray} (h : COL l) (h41 : l.length ≤ 41) : (encBytes l).length ≤ 1048576 := by
  have hd := dic_len l
  have g1 := G_len9 (n := l.length) (by omega)
  have g2 := G_len9 (n := (dic l).length) (by omega)
  have hdb := dictB_len (dic l) [] (small_dic (small_of h.2))
  have hr := runL_len l
  have hrb : ∀ L : List (ByteArray × Int), (∀ p ∈ L, p.1 ∈ dic l ∧ p.1.size ≤ 1000 ∧ 1 ≤ p.2 ∧ p.2 ≤ 2000) → (runB (dic l) L).length ≤ 18 * L.length := by
    intro L
    induction L with
    | nil => intro _; simp [runB]
    | cons p r ih =>
      intro hp
      obtain ⟨h1, h2, h3, h4⟩ := hp p (by simp)
      have := ih (fun x hx => hp x (by simp [hx]))
      have hi := idxN_lt h1
      have g1 := G_len9 (n := idxN (dic l) p.1) (by omega)
      have g2 := G_len9 (n := (p.2 - 1).toNat) (by omega)
      simp only [runB, List.length_append, List.length_cons]
      omega
  have := hrb (runL l) (runs_ok h)
  unfold encBytes
  simp only [List.length_append]
  omega
theorem eok {l : List ByteArray} (h : COL l) (h41 : l.length ≤ 41) : ENC l = (strOfNums (encBytes l), 0) := by
  unfold ENC; rw [if_pos h, if_neg (by have := esz h h41; omega)]
theorem distinct_round {l : List ByteArray} {s : ByteArray} (h : ENC l = (s, 0)) : Ev (fun k => dictcol_Distinct.f k s) (dic l, 0) := by
  unfold dictcol_Distinct.f
  exact Ev.bind (read_round h) (Ev.congr (fun k => if_pos rfl) (Ev.now _))
theorem at_round {l : List ByteArray} {s : ByteArray} (h : ENC l = (s, 0)) {i : Nat} (hi : i < l.length) : Ev (fun k => dictcol_At.f k s (i : Int)) (l[i], 0) := by
  unfold dictcol_At.f
  refine Ev.bind (read_round h) (Ev.congr (fun k => if_pos rfl) ?_)
  exact Ev.congr (fun k => by dsimp only; rw [if_neg (by omega), if_neg (by omega), if_pos (by omega), if_pos (by omega), rdS_get hi]) (Ev.now _)
theorem at_end {l : List ByteArray} {s : ByteArray} (h : ENC l = (s, 0)) : Ev (fun k => dictcol_At.f k s (l.length : Int)) (⟨#[]⟩, 2) := by
  unfold dictcol_At.f
  refine Ev.bind (read_round h) (Ev.congr (fun k => if_pos rfl) ?_)
  exact Ev.congr (fun k => by dsimp only; rw [if_neg (by omega), if_pos (by omega)]) (Ev.now _)
theorem idxS (l : List ByteArray) (x : ByteArray) (hl : l.length ≤ 1000000) : ∀ (n i : Nat), l.length - i = n → i ≤ l.length → ∃ r : Int, Ev (fun k => slices_Index_string_string.l0 k l x (l.length : Int) (i : Int)) r ∧ (0 ≤ r ↔ x ∈ l.drop i) := by
  intro n
  induction n with
  | zero =>
    intro i hn hi
    refine ⟨-1, Ev.step (fun k => by rw [slices_Index_string_string.l0, if_neg (by omega)]) (Ev.now _), ?_⟩
    rw [List.drop_eq_nil_of_le (by omega)]
    simp
  | succ n ih =>
    intro i hn hi
    have hlt : i < l.length := by omega
    rw [show l.drop i = l[i] :: l.drop (i + 1) from List.drop_eq_getElem_cons hlt]
    by_cases c : x = l[i]
    · refine ⟨(i : Int), Ev.step (fun k => by rw [slices_Index_string_string.l0, if_pos (by omega), if_pos (by omega), if_pos (by omega), rdS_get hlt, if_pos (by rw [c])]) (Ev.now _), ?_⟩
      exact ⟨fun _ => by rw [c]; exact List.mem_cons_self, fun _ => by omega⟩
    · obtain ⟨r, h1, h2⟩ := ih (i + 1) (by omega) (by omega)
      refine ⟨r, Ev.step (fun k => by rw [slices_Index_string_string.l0, if_pos (by omega), if_pos (by omega), if_pos (by omega), rdS_get hlt, if_neg (fun h => c (tl_inj h)), w1 (by omega)]) h1, ?_⟩
      rw [h2, List.mem_cons]
      exact ⟨.inr, fun h => h.resolve_left c⟩
theorem containsS (l : List ByteArray) (x : ByteArray) (hl : l.length ≤ 1000000) : Ev (fun k => slices_Contains_string_string.f k l x) (hasB x l) := by
  obtain ⟨r, h1, h2⟩ := idxS l x hl l.length 0 (by omega) (by omega)
  unfold slices_Contains_string_string.f slices_Index_string_string.f
  rw [List.drop_zero] at h2
  have e : hasB x l = decide (r ≥ 0) := by
    rw [Bool.eq_iff_iff, hasB_iff, decide_eq_true_iff]
    exact h2.symm
  rw [e]
  exact Ev.bind h1 (Ev.now _)
theorem rdI_get {l : List Int} {i : Nat} (h : i < l.length) : rd l (i : Int) = l[i] := by simp [rd, List.getD, List.getElem?_eq_getElem h]
theorem idxI (l : List Int) (x : Int) (hl : l.length ≤ 1000000) : ∀ (n i : Nat), l.length - i = n → i ≤ l.length → ∃ r : Int, Ev (fun k => slices_Index_int_int.l0 k l x (l.length : Int) (i : Int)) r ∧ (0 ≤ r ↔ x ∈ l.drop i) := by
  intro n
  induction n with
  | zero =>
    intro i hn hi
    refine ⟨-1, Ev.step (fun k => by rw [slices_Index_int_int.l0, if_neg (by omega)]) (Ev.now _), ?_⟩
    rw [List.drop_eq_nil_of_le (by omega)]
    simp
  | succ n ih =>
    intro i hn hi
    have hlt : i < l.length := by omega
    rw [show l.drop i = l[i] :: l.drop (i + 1) from List.drop_eq_getElem_cons hlt]
    by_cases c : x = l[i]
    · refine ⟨(i : Int), Ev.step (fun k => by rw [slices_Index_int_int.l0, if_pos (by omega), if_pos (by omega), if_pos (by omega), rdI_get hlt, if_pos c]) (Ev.now _), ?_⟩
      exact ⟨fun _ => by rw [c]; exact List.mem_cons_self, fun _ => by omega⟩
    · obtain ⟨r, h1, h2⟩ := ih (i + 1) (by omega) (by omega)
      refine ⟨r, Ev.step (fun k => by rw [slices_Index_int_int.l0, if_pos (by omega), if_pos (by omega), if_pos (by omega), rdI_get hlt, if_neg c, w1 (by omega)]) h1, ?_⟩
      rw [h2, List.mem_cons]
      exact ⟨.inr, fun h => h.resolve_left c⟩
theorem containsI (l : List Int) (x : Int) (hl : l.length ≤ 1000000) : Ev (fun k => slices_Contains_int_int.f k l x) (decide (x ∈ l)) := by
  obtain ⟨r, h1, h2⟩ := idxI l x hl l.length 0 (by omega) (by omega)
  unfold slices_Contains_int_int.f slices_Index_int_int.f
  rw [List.drop_zero] at h2
  have e : decide (x ∈ l) = decide (r ≥ 0) := by
    rw [decide_eq_decide]
    exact h2.symm
  rw [e]
  exact Ev.bind h1 (Ev.now _)
theorem less_int (a b : Int) : cmp_Less_int.f a b = some (decide (a < b)) := by
  unfold cmp_Less_int.f cmp_isNaN_int.f
  simp
theorem sorted_l0 (l : List Int) (hl : l.length ≤ 1000000) (h : l.Pairwise (· ≤ ·)) : ∀ i : Nat, i < l.length → Ev (fun k => slices_IsSorted_int_int.l0 k l (i : Int)) true := by
  intro i
  induction i with
  | zero => intro _; exact Ev.step (fun k => by rw [slices_IsSorted_int_int.l0, if_neg (by omega)]) (Ev.now _)
  | succ i ih =>
    intro hi
    have h1 := List.pairwise_iff_getElem.1 h i (i + 1) (by omega) hi (by omega)
    have e : wrap64 (((i + 1 : Nat) : Int) - 1) = (i : Int) := by rw [w_in (by omega) (by omega)]; omega
    refine Ev.step (fun k => by rw [slices_IsSorted_int_int.l0, if_pos (by omega), if_pos (by omega), if_pos (by omega), e, if_pos (by omega), if_pos (by omega), less_int, rdI_get hi, rdI_get (by omega : i < l.length), Option.bind_some, if_neg (by simp; omega)]) (ih (by omega))
theorem isSorted (l : List Int) (hl : l.length ≤ 1000000) (h : l.Pairwise (· ≤ ·)) : Ev (fun k => slices_IsSorted_int_int.f k l) true := by
  unfold slices_IsSorted_int_int.f
  rw [w_in (by omega) (by omega)]
  cases hc : l.length with
  | zero => exact Ev.step (fun k => by rw [slices_IsSorted_int_int.l0, if_neg (by omega)]) (Ev.now _)
  | succ n =>
    rw [show ((n + 1 : Nat) : Int) - 1 = (n : Int) by omega]
    exact sorted_l0 l hl h n (by omega)
theorem mem_LK (v : ByteArray) : ∀ (l : List ByteArray) (i : Nat) (z : Int), z ∈ LK v l i ↔ ∃ j, ∃ h : j < l.length, l[j] = v ∧ z = ((i + j : Nat) : Int)
  | [], i, z => by simp [LK]
  | x :: r, i, z => by
    have ih := mem_LK v r (i + 1) z
    have e : (∃ j, ∃ h : j < (x :: r).length, (x :: r)[j] = v ∧ z = ((i + j : Nat) : Int)) ↔ (x = v ∧ z = (i : Int)) ∨ ∃ j, ∃ h : j < r.length, r[j] = v ∧ z = ((i + 1 + j : Nat) : Int) := by
      constructor
      · rintro ⟨j, h, h1, h2⟩
        cases j with
        | zero => exact .inl ⟨h1, by simpa using h2⟩
        | succ j => exact .inr ⟨j, by simpa using h, by simpa using h1, by rw [h2]; omega⟩
      · rintro (⟨h1, h2⟩ | ⟨j, h, h1, h2⟩)
        · exact ⟨0, by simp, h1, by simpa using h2⟩
        · exact ⟨j + 1, by simp; omega, by simpa using h1, by rw [h2]; omega⟩
    rw [e, ← ih, LK]
    by_cases c : x = v
    · rw [if_pos c, List.mem_cons]; simp [c]
    · rw [if_neg c]; simp [c]
theorem LK_asc (v : ByteArray) : ∀ (l : List ByteArray) (i : Nat), (LK v l i).Pairwise (· < ·)
  | [], i => by simp [LK]
  | x :: r, i => by
    have ih := LK_asc v r (i + 1)
    rw [LK]
    by_cases c : x = v
    · rw [if_pos c, List.pairwise_cons]
      refine ⟨fun z hz => ?_, ih⟩
      obtain ⟨j, _, _, h2⟩ := (mem_LK v r (i + 1) z).1 hz
      omega
    · rw [if_neg c]; exact ih
/-- The indices of all strings, string by string. -/
def ALLI (l : List ByteArray) (d : List ByteArray) : List Int := d.flatMap fun y => LK y l 0
def RNG (n : Nat) : List Int := (List.range n).map Int.ofNat
theorem alli_perm (l : List ByteArray) : (ALLI l (dic l)).Perm (RNG l.length) := by
  have hn : ∀ (L : List Int), L.Pairwise (· < ·) → L.Nodup := fun L h => h.imp (fun h => Int.ne_of_lt h)
  refine (List.perm_ext_iff_of_nodup ?_ ?_).2 ?_
  · unfold ALLI List.Nodup
    rw [List.pairwise_flatMap]
    refine ⟨fun y _ => hn _ (LK_asc y l 0), (dic_asc l).imp (fun {a b} hab x hx y hy => ?_)⟩
    obtain ⟨j, h1, h2, h3⟩ := (mem_LK a l 0 x).1 hx
    obtain ⟨j2, q1, q2, q3⟩ := (mem_LK b l 0 y).1 hy
    intro he
    have : j = j2 := by omega
    subst this
    rw [h2] at q2
    rw [q2] at hab
    exact List.lt_irrefl _ hab
  · unfold RNG List.Nodup
    rw [List.pairwise_map]
    exact List.nodup_range.imp (fun h he => h (Int.ofNat.inj he))
  · intro z
    unfold ALLI RNG
    rw [List.mem_flatMap, List.mem_map]
    constructor
    · rintro ⟨y, _, hz⟩
      obtain ⟨j, h1, h2, h3⟩ := (mem_LK y l 0 z).1 hz
      exact ⟨j, List.mem_range.2 h1, by rw [h3, Nat.zero_add]; rfl⟩
    · rintro ⟨j, h1, rfl⟩
      have h1 := List.mem_range.1 h1
      exact ⟨l[j], mem_dic.2 (List.getElem_mem h1), (mem_LK _ l 0 _).2 ⟨j, h1, rfl, by rw [Nat.zero_add]; rfl⟩⟩
theorem sortI_alli (l : List ByteArray) : sortI (ALLI l (dic l)) = RNG l.length := by
  have hp : (sortI (ALLI l (dic l))).Perm (RNG l.length) := (List.mergeSort_perm _ _).trans (alli_perm l)
  have hs : (sortI (ALLI l (dic l))).Pairwise (fun x y => decide (x ≤ y) = true) := List.pairwise_mergeSort (le := fun (x y : Int) => decide (x ≤ y)) (fun a b c h1 h2 => by simp at *; omega) (fun a b => by simp; omega) _
  have hr : (RNG l.length).Pairwise (fun x y => decide (x ≤ y) = true) := by
    unfold RNG
    rw [List.pairwise_map]
    exact List.pairwise_lt_range.imp (fun h => by simp; omega)
  exact hp.eq_of_pairwise (fun a b _ _ h1 h2 => by simp at h1 h2; omega) hs hr
theorem rng_get {n i : Nat} (h : i < n) : rd (RNG n) (i : Int) = (i : Int) := by
  rw [rdI_get (by simp [RNG]; exact h)]
  simp [RNG]
end Go.Proofs.Ytfklecicddpcjaa.DK
