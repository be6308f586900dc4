/- Plain facts on columns of strings: Decode, Lookup, the chapter's example. No condition beyond those in the statements. -/
import Derived.Test.YtfklecicddpcjaaK5
import Derived.Test.YtfklecicddpcjaaPx32
import Derived.Test.YtfklecicddpcjaaPx33
import Derived.Test.YtfklecicddpcjaaPx34
namespace Go.Proofs.Ytfklecicddpcjaa.DK
open Go.RowKit Go.Proofs.Ytfklecicddpcjaa.VB Go.Proofs.Ytfklecicddpcjaa.P Go.Proofs.Ytfklecicddpcjaa.A Go.Proofs.Ytfklecicddpcjaa.Hand Go.Proofs.YtfklecicddpcjaaW.PrintWords Go.Proofs.YtfklecicddpcjaaW.PrintLast Go.Proofs.YtfklecicddpcjaaW.PrintMore
set_option linter.unusedVariables false
set_option linter.unusedSimpArgs false
theorem decode_round {l : List ByteArray} {s : ByteArray} (h : ENC l = (s, 0)) : Ev (fun k => dictcol_Decode.f k s) (l, 0) := by
  unfold dictcol_Decode.f
  exact Ev.bind (read_round h) (Ev.congr (fun k => if_pos rfl) (Ev.now _))
theorem decode_total (s : ByteArray) : (∃ l, ENC l = (s, 0)) ∨ Ev (fun k => dictcol_Decode.f k s) ([], 12) := by
  obtain ⟨r, hr, h | ⟨d, l, _, h⟩⟩ := read_total s
  · right
    subst h
    unfold dictcol_Decode.f
    exact Ev.bind hr (Ev.congr (fun k => if_neg (by simp)) (Ev.now _))
  · exact .inl ⟨l, h⟩
/-- The indices from i on of the strings of a list that are v. -/
def LK (v : ByteArray) : List ByteArray → Nat → List Int
  | [], _ => []
  | x :: r, i => if x = v then (i : Int) :: LK v r (i + 1) else LK v r (i + 1)
theorem LK_len (v : ByteArray) : ∀ (l : List ByteArray) (i : Nat), (LK v l i).length ≤ l.length
  | [], _ => by simp [LK]
  | x :: r, i => by
    have := LK_len v r (i + 1)
    unfold LK
    split <;> simp <;> omega
theorem lookup_l0 (v : ByteArray) (l : List ByteArray) (hl : l.length ≤ 1000000) : ∀ (n i : Nat) (acc : List Int), l.length - i = n → i ≤ l.length → acc.length + n ≤ 1000000 → Ev (fun k => dictcol_Lookup.l0 k v acc l (l.length : Int) (i : Int)) (acc ++ LK v (l.drop i) i, 0) := by
  intro n
  induction n with
  | zero =>
    intro i acc hn hi ha
    rw [List.drop_eq_nil_of_le (by omega), LK, List.append_nil]
    exact Ev.step (fun k => by rw [dictcol_Lookup.l0, if_neg (by omega)]) (Ev.now _)
  | succ n ih =>
    intro i acc hn hi ha
    have hlt : i < l.length := by omega
    rw [show l.drop i = l[i] :: l.drop (i + 1) from List.drop_eq_getElem_cons hlt, LK]
    by_cases c : l[i] = v
    · rw [if_pos c, show acc ++ (i : Int) :: LK v (l.drop (i + 1)) (i + 1) = acc ++ [(i : Int)] ++ LK v (l.drop (i + 1)) (i + 1) by simp]
      exact Ev.step (fun k => by rw [dictcol_Lookup.l0, if_pos (by omega), if_pos (by omega), if_pos (by omega), rdS_get hlt, if_pos (by rw [c]), if_pos (by omega), w1 (by omega)]) (ih (i + 1) (acc ++ [(i : Int)]) (by omega) (by omega) (by simp; omega))
    · rw [if_neg c]
      exact Ev.step (fun k => by rw [dictcol_Lookup.l0, if_pos (by omega), if_pos (by omega), if_pos (by omega), rdS_get hlt, if_neg (fun h => c (tl_inj h)), w1 (by omega)]) (ih (i + 1) acc (by omega) (by omega) (by omega))
theorem lookup_round {l : List ByteArray} {s : ByteArray} (v : ByteArray) (h : ENC l = (s, 0)) : Ev (fun k => dictcol_Lookup.f k s v) (LK v l 0, 0) := by
  have hl := (enc_ok h).1.1
  unfold dictcol_Lookup.f
  refine Ev.bind (read_round h) ?_
  refine Ev.congr (fun k => if_pos rfl) ?_
  have := lookup_l0 v l (by omega) l.length 0 [] (by simp) (by omega) (by simp; omega)
  simpa using this
theorem same01_l0 (a b : List Int) (hl : a.length = b.length) (ha : a.length < 140737488355328) : ∀ (n i k : Nat), a.length - i ≤ n → i ≤ a.length → n + 1 ≤ k → lookoutref01_Same.l0 k a b (i : Int) = some (decide (a.drop i = b.drop i)) := by
  intro n
  induction n with
  | zero =>
    intro i k hn hi hk
    obtain ⟨k, rfl⟩ : ∃ j, k = j + 1 := ⟨k - 1, by omega⟩
    rw [lookoutref01_Same.l0, if_neg (by omega), List.drop_eq_nil_of_le (by omega), List.drop_eq_nil_of_le (by omega)]
    simp
  | succ n ih =>
    intro i k hn hi hk
    obtain ⟨k, rfl⟩ : ∃ j, k = j + 1 := ⟨k - 1, by omega⟩
    have rdI : ∀ {l : List Int} {i : Nat} (h : i < l.length), rd l (i : Int) = l[i] := fun h => by simp [rd, List.getD, List.getElem?_eq_getElem h]
    rw [lookoutref01_Same.l0]
    by_cases c1 : i < a.length
    · rw [if_pos (by omega), if_pos (by omega), if_pos (by omega), rdI c1, rdI (by omega : i < b.length), w1 (by omega), ih (i + 1) k (by omega) (by omega) (by omega), show a.drop i = a[i] :: a.drop (i + 1) from List.drop_eq_getElem_cons c1, show b.drop i = b[i]'(by omega) :: b.drop (i + 1) from List.drop_eq_getElem_cons (by omega : i < b.length)]
      by_cases c2 : a[i] = b[i]
      · rw [if_pos c2, c2]; simp only [List.cons.injEq, true_and]
      · rw [if_neg c2]
        simp only [List.cons.injEq, c2, false_and, decide_false]
    · rw [if_neg (by omega), List.drop_eq_nil_of_le (by omega), List.drop_eq_nil_of_le (by omega)]
      simp
theorem same01_ev (a b : List Int) (ha : a.length < 140737488355328) : Ev (fun k => lookoutref01_Same.f k a b) (decide (a = b)) := by
  unfold lookoutref01_Same.f
  by_cases hl : a.length = b.length
  · refine Ev.congr (fun k => if_pos (by omega)) ⟨a.length + 1, fun k hk => ?_⟩
    have := same01_l0 a b hl ha a.length 0 k (by omega) (by omega) hk
    simpa using this
  · rw [decide_eq_false (fun h => hl (by rw [h]))]
    exact Ev.congr (fun k => if_neg (by omega)) (Ev.now _)
/-! ### the example -/
def ex0 : List ByteArray := [⟨#[98]⟩, ⟨#[98]⟩, ⟨#[97, 98]⟩, ⟨#[97, 98, 99]⟩]
def ex1 : List ByteArray := [⟨#[97, 98]⟩, ⟨#[97, 98, 99]⟩, ⟨#[98]⟩]
theorem ex_dic : dic ex0 = ex1 := by
  refine asc_ext (dic_asc _) ?_ (fun z => ?_)
  · unfold Asc ex1
    simp only [List.pairwise_cons, List.mem_cons, List.not_mem_nil, or_false, forall_eq_or_imp, forall_eq]
    refine ⟨⟨by decide, by decide⟩, by decide, (fun _ h => by cases h), List.Pairwise.nil⟩
  · rw [mem_dic]
    simp only [ex0, ex1, List.mem_cons, List.not_mem_nil, or_false]
    constructor
    · rintro (h | h | h | h) <;> simp [h]
    · rintro (h | h | h) <;> simp [h]
theorem ex_runs : runL ex0 = [(⟨#[98]⟩, 2), (⟨#[97, 98]⟩, 1), (⟨#[97, 98, 99]⟩, 1)] := by
  have e1 : eqN ⟨#[98]⟩ [⟨#[98]⟩, ⟨#[97, 98]⟩, ⟨#[97, 98, 99]⟩] = 1 := by
    simp only [eqN, toL]
    rfl
  have e2 : eqN ⟨#[97, 98]⟩ [⟨#[97, 98, 99]⟩] = 0 := by
    simp only [eqN, toL]
    rfl
  unfold ex0
  rw [runL_cons, e1, List.drop_succ_cons, List.drop_zero, runL_cons, e2, List.drop_zero, runL_cons, show eqN (⟨#[97, 98, 99]⟩ : ByteArray) [] = 0 from rfl, List.drop_zero, runL_nil]
  rfl
theorem ex_bytes : encBytes ex0 = [4, 3, 0, 2, 97, 98, 2, 1, 99, 0, 1, 98, 2, 1, 0, 0, 1, 0] := by
  unfold encBytes
  rw [ex_dic, ex_runs]
  have i1 : idxN ex1 ⟨#[98]⟩ = 2 := by decide
  have i2 : idxN ex1 ⟨#[97, 98]⟩ = 0 := by decide
  have i3 : idxN ex1 ⟨#[97, 98, 99]⟩ = 1 := by decide
  have hd : dictB ex1 [] = G 0 ++ (G 2 ++ ([97, 98] ++ (G 2 ++ (G 1 ++ ([99] ++ (G 0 ++ (G 1 ++ ([98] ++ [])))))))) := rfl
  simp only [runB, i1, i2, i3, hd]
  rw [show ex0.length = 4 from rfl, show ex1.length = 3 from rfl]
  simp only [show ((2 : Int) - 1).toNat = 1 from rfl, show ((1 : Int) - 1).toNat = 0 from rfl]
  rw [G_small (n := 4) (by omega), G_small (n := 3) (by omega), G_small (n := 0) (by omega), G_small (n := 2) (by omega), G_small (n := 1) (by omega)]
  rfl
theorem ex_enc : ENC ex0 = (strOfNums [4, 3, 0, 2, 97, 98, 2, 1, 99, 0, 1, 98, 2, 1, 0, 0, 1, 0], 0) := by
  unfold ENC
  rw [if_pos (show COL ex0 from ⟨by decide, by decide⟩), ex_bytes, if_neg (by decide)]
theorem awake_ev : Ev (fun k => lookoutlaw10_awake.f k) true := by
  unfold lookoutlaw10_awake.f
  simp only [Option.bind_some]
  have he := enc_ev ex0
  have hd := decode_round ex_enc
  have hk := lookup_round (⟨#[98]⟩ : ByteArray) ex_enc
  rw [ex_enc] at he
  refine Ev.bind he ?_
  refine Ev.bind hd ?_
  refine Ev.bind hk ?_
  refine Ev.congr (fun k => by rw [if_pos rfl, if_pos rfl, if_pos rfl, if_pos (by rw [toL]; rfl)]) ?_
  refine Ev.bind (same_ev ex0 ex0 (by decide)) ?_
  refine Ev.congr (fun k => if_pos (by simp)) ?_
  have e : LK (⟨#[98]⟩ : ByteArray) ex0 0 = [0, 1] := by decide
  rw [e]
  refine Ev.bind (same01_ev [0, 1] [0, 1] (by decide)) (Ev.congr (fun k => by rfl) (Ev.now _))
theorem awake_end : Ev (fun k => (lookoutlaw10_awake.f k).bind fun t => (some t)) true := Ev.bind awake_ev (Ev.now _)
/-! ### what the statements examine -/
theorem great_l0 (l : List ByteArray) (hw : ∀ x ∈ l, x.size ≤ 140737488351232) (hl : l.length ≤ 140737488351232) : ∀ (n i m : Nat), 41 - i ≤ n → i ≤ l.length → i ≤ 41 → m ≤ 3000 → ∃ t, Ev (fun k => lookoutref10_Great.l0 k l (m : Int) (i : Int)) t ∧ (t = false → l.length ≤ 40) := by
  intro n
  have hend : ∀ (i m : Nat), Ev (fun k => lookoutref10_Great.j1 k l (m : Int) (i : Int) false) (decide ((l.length : Int) > 40)) := fun i m => Ev.step (fun k => by rw [lookoutref10_Great.j1, if_neg (by simp)]) (Ev.now _)
  induction n with
  | zero =>
    intro i m hn hi h41 hm
    refine ⟨decide ((l.length : Int) > 40), ?_, fun h => by have := of_decide_eq_false h; omega⟩
    by_cases c : i < l.length
    · exact Ev.step (fun k => by rw [lookoutref10_Great.l0, if_pos (by omega), decide_eq_false (by omega : ¬ (i : Int) < 41)]) (hend i m)
    · exact Ev.step (fun k => by rw [lookoutref10_Great.l0, if_neg (by omega)]) (hend i m)
  | succ n ih =>
    intro i m hn hi h41 hm
    by_cases c : i < l.length
    · by_cases c2 : i < 41
      · have hx := hw l[i] (List.getElem_mem c)
        by_cases c3 : m + l[i].size > 3000
        · refine ⟨true, Ev.step (fun k => by rw [lookoutref10_Great.l0, if_pos (by omega), decide_eq_true (by omega : (i : Int) < 41)]) (Ev.step (fun k => by rw [lookoutref10_Great.j1, if_pos rfl, if_pos (by omega), if_pos (by omega), rdS_get c, if_pos (by rw [w_in (by omega) (by omega)]; omega)]) (Ev.now _)), fun h => by cases h⟩
        · obtain ⟨t, ht, hf⟩ := ih (i + 1) (m + l[i].size) (by omega) (by omega) (by omega) (by omega)
          refine ⟨t, Ev.step (fun k => by rw [lookoutref10_Great.l0, if_pos (by omega), decide_eq_true (by omega : (i : Int) < 41)]) (Ev.step (fun k => ?_) ht), hf⟩
          rw [lookoutref10_Great.j1, if_pos rfl, if_pos (by omega), if_pos (by omega), rdS_get c, if_neg (by rw [w_in (by omega) (by omega)]; omega), w_in (by omega) (by omega), w1 (by omega), show ((m + l[i].size : Nat) : Int) = (m : Int) + (l[i].size : Int) by omega]
      · exact ⟨decide ((l.length : Int) > 40), Ev.step (fun k => by rw [lookoutref10_Great.l0, if_pos (by omega), decide_eq_false (by omega : ¬ (i : Int) < 41)]) (hend i m), fun h => by have := of_decide_eq_false h; omega⟩
    · exact ⟨decide ((l.length : Int) > 40), Ev.step (fun k => by rw [lookoutref10_Great.l0, if_neg (by omega)]) (hend i m), fun h => by have := of_decide_eq_false h; omega⟩
theorem great_ev (l : List ByteArray) (hw : ∀ x ∈ l, x.size ≤ 140737488351232) (hl : l.length ≤ 140737488351232) : ∃ t, Ev (fun k => lookoutref10_Great.f k l) t ∧ (t = false → l.length ≤ 40) :=
  great_l0 l hw hl 41 0 0 (by omega) (by omega) (by omega) (by omega)
end Go.Proofs.Ytfklecicddpcjaa.DK
