/- Plain facts on columns of strings: Encode as a whole; lists that are compared. No condition beyond those in the statements. -/
import Derived.Test.YtfklecicddpcjaaK2
import Derived.Test.YtfklecicddpcjaaAA
namespace Go.Proofs.Ytfklecicddpcjaa.DK
open Go.RowKit Go.Proofs.Ytfklecicddpcjaa.VB Go.Proofs.Ytfklecicddpcjaa.A Go.Proofs.Ytfklecicddpcjaa.Hand Go.Proofs.YtfklecicddpcjaaW.PrintWords Go.Proofs.YtfklecicddpcjaaW.PrintLast Go.Proofs.YtfklecicddpcjaaW.PrintMore
set_option linter.unusedVariables false
set_option linter.unusedSimpArgs false
theorem insS_len (x : ByteArray) (l : List ByteArray) : (insS x l).length = l.length + 1 := by
  have := posB_le x l
  unfold insS; simp; omega
theorem dicF_len : ∀ (l out : List ByteArray), (dicF l out).length ≤ l.length + out.length
  | [], out => by simp [dicF]
  | x :: r, out => by
    unfold dicF
    split
    · have := dicF_len r out; simp; omega
    · have := dicF_len r (insS x out); rw [insS_len] at this; simp; omega
theorem dic_len (l : List ByteArray) : (dic l).length ≤ l.length := by
  have := dicF_len l []
  unfold dic
  simpa using this
def encBytes (l : List ByteArray) : List Int := G l.length ++ (G (dic l).length ++ (dictB (dic l) [] ++ runB (dic l) (runL l)))
def COL (l : List ByteArray) : Prop := l.length ≤ 2000 ∧ longAny l = false
instance (l : List ByteArray) : Decidable (COL l) := by unfold COL; infer_instance
def ENC (l : List ByteArray) : ByteArray × Int := if COL l then (if (encBytes l).length > 1048576 then (⟨#[]⟩, 4) else (strOfNums (encBytes l), 0)) else (⟨#[]⟩, 4)
theorem small_of {l : List ByteArray} (h : longAny l = false) : Small l := by
  intro s hs
  unfold longAny at h
  have := List.any_eq_false.1 h s hs
  simp at this; omega
theorem long_of {l : List ByteArray} (h : Small l) : longAny l = false := by
  unfold longAny
  rw [List.any_eq_false]
  intro s hs
  have := h s hs
  simp; omega
theorem small_dic {l : List ByteArray} (h : Small l) : Small (dic l) := fun s hs => h s (mem_dic.1 hs)
theorem runs_ok {l : List ByteArray} (h : COL l) : ∀ p ∈ runL l, p.1 ∈ dic l ∧ p.1.size ≤ 1000 ∧ 1 ≤ p.2 ∧ p.2 ≤ 2000 := by
  intro p hp
  obtain ⟨h1, h2, h3⟩ := runF_pos l.length l p hp
  exact ⟨mem_dic.2 h1, small_of h.2 _ h1, h2, by have := h.1; omega⟩
theorem enc_eq (l : List ByteArray) : [] ++ G l.length ++ G (dic l).length ++ dictB (dic l) (bytesOf (⟨#[]⟩ : ByteArray)) ++ runB (dic l) (runL l) = encBytes l := by
  rw [bytesOf_empty]
  unfold encBytes
  simp only [List.nil_append, List.append_assoc]
theorem encG_ev {l : List ByteArray} (h : COL l) : Ev (fun k => encG k l (dic l)) (encBytes l) := by
  have hd := dic_len l
  have hl := h.1
  have hs := small_of h.2
  have g1 := G_len9 (n := l.length) (by omega)
  have g2 := G_len9 (n := (dic l).length) (by omega)
  have hdb := dictB_len (dic l) (bytesOf (⟨#[]⟩ : ByteArray)) (small_dic hs)
  have hr := runL_len l
  rw [← enc_eq l]
  unfold encG
  refine Ev.bind (num_ev [] l.length (by omega) (by simp)) ?_
  refine Ev.bind (num_ev _ (dic l).length (by omega) (by simp; omega)) ?_
  refine Ev.bind (dict_ev (dic l) ⟨#[]⟩ _ (small_dic hs) (Nat.zero_le _) (by simp only [List.length_append, List.length_nil]; omega)) ?_
  exact runs_ev (dic l) (dic_asc l) (by omega) (runL l) _ (runs_ok h) (by simp only [List.length_append, List.length_nil]; omega)
theorem isCol (l : List ByteArray) : dictcol_isColumn.f l = some (decide (COL l)) := by
  unfold dictcol_isColumn.f
  by_cases h1 : l.length ≤ 2000
  · rw [if_pos (by omega)]
    have e : contains_col.f l = some (longAny l) := rfl
    rw [e, Option.bind_some]
    congr 1
    by_cases hb : longAny l = true
    · rw [hb, decide_eq_false (fun h : COL l => by have := h.2; rw [hb] at this; cases this)]; rfl
    · have hb : longAny l = false := by simpa using hb
      rw [hb, decide_eq_true (show COL l from ⟨h1, hb⟩)]; rfl
  · rw [if_neg (by omega)]
    congr 1
    symm
    rw [decide_eq_false_iff_not]
    exact fun h => h1 h.1
theorem enc_ev (l : List ByteArray) : Ev (fun k => dictcol_Encode.f k l) (ENC l) := by
  unfold dictcol_Encode.f ENC
  simp only [isCol, Option.bind_some]
  by_cases h : COL l
  · simp only [if_pos h, decide_eq_true h, if_true]
    have := h.1
    refine Ev.congr (fun k => if_pos (by omega)) ?_
    rw [prog_dic]
    refine Ev.bind (encG_ev h) ?_
    by_cases c : (encBytes l).length > 1048576
    · rw [if_pos c]; exact Ev.congr (fun k => if_pos (by omega)) (Ev.now _)
    · rw [if_neg c]; exact Ev.congr (fun k => if_neg (by omega)) (Ev.now _)
  · simp only [if_neg h, decide_eq_false h]
    exact Ev.congr (fun k => by simp) (Ev.now _)
theorem refEncG_ev {l : List ByteArray} (h : COL l) : Ev (fun k => refEncG k l (dic l)) (encBytes l) := by
  have hd := dic_len l
  have hl := h.1
  have hs := small_of h.2
  have g1 := G_len9 (n := l.length) (by omega)
  have g2 := G_len9 (n := (dic l).length) (by omega)
  have hdb := dictB_len (dic l) [] (small_dic hs)
  have hr := runL_len l
  have eb : bytesOf (strOfNums (G l.length) ++ strOfNums (G (dic l).length)) = G l.length ++ G (dic l).length := by rw [bytesOf_append, bytesOf_nums (G_byte _), bytesOf_nums (G_byte _)]
  have e : G l.length ++ G (dic l).length ++ dictB (dic l) (prevB none) ++ runB (dic l) (runL l) = encBytes l := by
    unfold encBytes prevB
    simp only [List.append_assoc]
  rw [← e]
  unfold refEncG
  refine Ev.bind (numRef_ev l.length (by omega)) ?_
  refine Ev.bind (numRef_ev (dic l).length (by omega)) ?_
  refine Ev.congr (fun k => if_pos (by rw [str_size, str_size]; omega)) ?_
  rw [eb]
  refine Ev.bind (dictRef_ev (dic l) none _ (small_dic hs) (fun q hq => by cases hq) (by simp only [List.length_append]; omega)) ?_
  exact runsRef_ev (dic l) (by omega) (runL l) _ (runs_ok h) (by have : prevB none = [] := rfl; rw [this]; simp only [List.length_append]; omega)
theorem encRef_ev (l : List ByteArray) : Ev (fun k => lookoutref10_Encode.f k l) (ENC l) := by
  unfold lookoutref10_Encode.f ENC
  by_cases h1 : l.length ≤ 2000
  · refine Ev.congr (fun k => if_neg (by omega)) ?_
    by_cases h2 : longAny l = true
    · rw [if_neg (fun h : COL l => by have := h.2; rw [h2] at this; cases this)]
      exact Ev.congr (fun k => if_pos h2) (Ev.now _)
    · have h : COL l := ⟨h1, by simpa using h2⟩
      rw [if_pos h]
      refine Ev.congr (fun k => if_neg h2) ?_
      refine Ev.bind (dicRef_ev l (by omega)) ?_
      refine Ev.bind (refEncG_ev h) ?_
      by_cases c : (encBytes l).length > 1048576
      · rw [if_pos c]; exact Ev.congr (fun k => if_pos (by omega)) (Ev.now _)
      · rw [if_neg c]; exact Ev.congr (fun k => if_neg (by omega)) (Ev.now _)
  · rw [if_neg (fun h : COL l => h1 h.1)]
    exact Ev.congr (fun k => if_pos (by omega)) (Ev.now _)
theorem encBytes_byte (l : List ByteArray) : ∀ b ∈ encBytes l, 0 ≤ b ∧ b ≤ 255 := by
  have hr : ∀ (d : List ByteArray) (L : List (ByteArray × Int)), ∀ b ∈ runB d L, 0 ≤ b ∧ b ≤ 255 := by
    intro d L
    induction L with
    | nil => simp [runB]
    | cons p r ih =>
      intro b hb
      simp only [runB, List.mem_append] at hb
      rcases hb with h | h | h
      · exact G_byte _ b h
      · exact G_byte _ b h
      · exact ih b h
  have hd : ∀ (d : List ByteArray) (p : List Int), ∀ b ∈ dictB d p, 0 ≤ b ∧ b ≤ 255 := by
    intro d
    induction d with
    | nil => simp [dictB]
    | cons s r ih =>
      intro p b hb
      simp only [dictB, List.mem_append] at hb
      rcases hb with h | h | h | h
      · exact G_byte _ b h
      · exact G_byte _ b h
      · exact bytes_in s b (List.mem_of_mem_drop h)
      · exact ih _ b h
  intro b hb
  simp only [encBytes, List.mem_append] at hb
  rcases hb with h | h | h | h
  · exact G_byte _ b h
  · exact G_byte _ b h
  · exact hd _ _ b h
  · exact hr _ _ b h
/-! ### comparing -/
theorem rdS_get {l : List ByteArray} {i : Nat} (h : i < l.length) : rdOf ByteArray.empty l (i : Int) = l[i] := by simp [rdOf, List.getD, List.getElem?_eq_getElem h]
theorem same_l0 (a b : List ByteArray) (hl : a.length = b.length) (ha : a.length < 140737488355328) : ∀ (n i k : Nat), a.length - i ≤ n → i ≤ a.length → n + 1 ≤ k → lookoutref10_Same.l0 k a b (i : Int) = some (decide (a.drop i = b.drop i)) := by
  intro n
  induction n with
  | zero =>
    intro i k hn hi hk
    obtain ⟨k, rfl⟩ : ∃ j, k = j + 1 := ⟨k - 1, by omega⟩
    rw [lookoutref10_Same.l0, if_neg (by omega), List.drop_eq_nil_of_le (by omega), List.drop_eq_nil_of_le (by omega)]
    simp
  | succ n ih =>
    intro i k hn hi hk
    obtain ⟨k, rfl⟩ : ∃ j, k = j + 1 := ⟨k - 1, by omega⟩
    rw [lookoutref10_Same.l0]
    by_cases c1 : i < a.length
    · rw [if_pos (by omega), if_pos (by omega), if_pos (by omega), rdS_get c1, rdS_get (by omega : i < b.length), w1 (by omega), ih (i + 1) k (by omega) (by omega) (by omega), show a.drop i = a[i] :: a.drop (i + 1) from List.drop_eq_getElem_cons c1, show b.drop i = b[i]'(by omega) :: b.drop (i + 1) from List.drop_eq_getElem_cons (by omega : i < b.length)]
      by_cases c2 : a[i] = b[i]
      · rw [if_pos (by rw [c2]), c2]; simp only [List.cons.injEq, true_and]
      · rw [if_neg (fun h => c2 (tl_inj h))]
        simp only [List.cons.injEq, c2, false_and, decide_false]
    · rw [if_neg (by omega), List.drop_eq_nil_of_le (by omega), List.drop_eq_nil_of_le (by omega)]
      simp
theorem same_ev (a b : List ByteArray) (ha : a.length < 140737488355328) : Ev (fun k => lookoutref10_Same.f k a b) (decide (a = b)) := by
  unfold lookoutref10_Same.f
  by_cases hl : a.length = b.length
  · refine Ev.congr (fun k => if_pos (by omega)) ⟨a.length + 1, fun k hk => ?_⟩
    have := same_l0 a b hl ha a.length 0 k (by omega) (by omega) hk
    simpa using this
  · rw [decide_eq_false (fun h => hl (by rw [h]))]
    exact Ev.congr (fun k => if_neg (by omega)) (Ev.now _)
end Go.Proofs.Ytfklecicddpcjaa.DK
