/- A column with its last string again is at most two bytes longer. No condition beyond those in the statement. -/
import Derived.Test.YtfklecicddpcjaaK6
import Derived.Test.YtfklecicddpcjaaPx38
namespace Go.Proofs.Ytfklecicddpcjaa.Pure
open Go.RowKit Go.Proofs.Ytfklecicddpcjaa.P Go.Proofs.Ytfklecicddpcjaa.A Go.Proofs.Ytfklecicddpcjaa.Hand Go.Proofs.YtfklecicddpcjaaW.PrintWords Go.Proofs.YtfklecicddpcjaaW.PrintLast Go.Proofs.YtfklecicddpcjaaW.PrintMore Go.Proofs.Ytfklecicddpcjaa.DK Go.Proofs.Ytfklecicddpcjaa.VB
set_option linter.unusedVariables false
theorem enc_size41 {l : List ByteArray} (h : COL l) (h41 : l.length ≤ 41) : (encBytes l).length ≤ 1048576 := by
  have hd := dic_len l
  have g1 := G_len9 (n := l.length) (by omega)
  have g2 := G_len9 (n := (dic l).length) (by omega)
  have hdb := dictB_len (dic l) [] (small_dic (small_of h.2))
  have hr := runL_len l
  have hrb : ∀ L : List (ByteArray × Int), (∀ p ∈ L, p.1 ∈ dic l ∧ p.1.size ≤ 1000 ∧ 1 ≤ p.2 ∧ p.2 ≤ 2000) → (runB (dic l) L).length ≤ 18 * L.length := by
    intro L
    induction L with
    | nil => intro _; simp [runB]
    | cons p r ih =>
      intro hp
      obtain ⟨h1, h2, h3, h4⟩ := hp p (by simp)
      have := ih (fun x hx => hp x (by simp [hx]))
      have hi := idxN_lt h1
      have g1 := G_len9 (n := idxN (dic l) p.1) (by omega)
      have g2 := G_len9 (n := (p.2 - 1).toNat) (by omega)
      simp only [runB, List.length_append, List.length_cons]
      omega
  have := hrb (runL l) (runs_ok h)
  unfold encBytes
  simp only [List.length_append]
  omega
theorem enc_ok41 {l : List ByteArray} (h : COL l) (h41 : l.length ≤ 41) : ENC l = (strOfNums (encBytes l), 0) := by
  unfold ENC; rw [if_pos h, if_neg (by have := enc_size41 h h41; omega)]
theorem runB_len (l : List ByteArray) (h : COL l) (h41 : l.length ≤ 41) : ∀ L : List (ByteArray × Int), (∀ p ∈ L, p.1 ∈ dic l ∧ p.2 ≤ 41) → (runB (dic l) L).length = 2 * L.length := by
  intro L
  have hd := dic_len l
  induction L with
  | nil => intro _; simp [runB]
  | cons p r ih =>
    intro hp
    obtain ⟨h1, h2⟩ := hp p (by simp)
    have := ih (fun x hx => hp x (by simp [hx]))
    have hi := idxN_lt h1
    have g1 := (G_one (idxN (dic l) p.1)).2 (by omega)
    have g2 := (G_one (p.2 - 1).toNat).2 (by omega)
    simp only [runB, List.length_append, List.length_cons]
    omega
theorem enc_len41 {l : List ByteArray} (h : COL l) (h41 : l.length ≤ 41) : (encBytes l).length = 2 + (dictB (dic l) []).length + 2 * (runL l).length := by
  have hd := dic_len l
  have g1 := (G_one l.length).2 (by omega)
  have g2 := (G_one (dic l).length).2 (by omega)
  have := runB_len l h h41 (runL l) (fun p hp => by
    obtain ⟨h1, h2, h3⟩ := runF_pos l.length l p hp
    exact ⟨mem_dic.2 h1, by omega⟩)
  unfold encBytes
  simp only [List.length_append]
  omega
theorem eqN_append (y : ByteArray) (s : List ByteArray) : ∀ r : List ByteArray, eqN y (r ++ s) = if eqN y r = r.length then r.length + eqN y s else eqN y r
  | [] => by simp [eqN]
  | x :: r => by
    have ih := eqN_append y s r
    have hle := eqN_le y r
    rw [List.cons_append, eqN, eqN]
    by_cases c : x.toList = y.toList
    · rw [if_pos c, if_pos c, ih]
      by_cases c2 : eqN y r = r.length
      · rw [if_pos c2, if_pos (by simp [c2])]; simp; omega
      · rw [if_neg c2, if_neg (by simp [c2])]
    · rw [if_neg c, if_neg c, if_neg (by simp)]
theorem runs_more (x : ByteArray) : ∀ (n : Nat) (l : List ByteArray), l.length ≤ n → l.getLast? = some x → (runL (l ++ [x])).length = (runL l).length := by
  intro n
  induction n with
  | zero =>
    intro l hn hl
    have h0 : l = [] := List.eq_nil_of_length_eq_zero (by omega)
    rw [h0] at hl
    simp at hl
  | succ n ih =>
    intro l hn hl
    cases l with
    | nil => simp at hl
    | cons y r =>
      rw [List.length_cons] at hn
      have hle := eqN_le y r
      rw [List.cons_append, runL_cons, runL_cons, eqN_append]
      by_cases c : eqN y r = r.length
      · have hall := run_split y r
        rw [c, List.drop_length, List.append_nil] at hall
        have hxy : x = y := by
          rw [← hall, List.getLast?_replicate, if_neg (by omega)] at hl
          exact (Option.some.inj hl).symm
        subst hxy
        have e : eqN x [x] = 1 := by simp [eqN]
        rw [if_pos c, e, List.drop_eq_nil_of_le (by simp), c, List.drop_length, List.length_cons, List.length_cons]
      · rw [if_neg c, List.drop_append_of_le_length hle, List.length_cons, List.length_cons]
        rw [ih (r.drop (eqN y r)) (by rw [List.length_drop]; omega)]
        have hne : r.drop (eqN y r) ≠ [] := by
          intro h
          have := congrArg List.length h
          rw [List.length_drop, List.length_nil] at this
          omega
        have hl2 : r.getLast? = some x := by
          cases r with
          | nil => simp at hne
          | cons a b => rw [List.getLast?_cons_cons] at hl; exact hl
        rw [List.getLast?_drop, if_neg (by omega)]
        exact hl2
theorem dic_more {x : ByteArray} {l : List ByteArray} (h : x ∈ l) : dic (l ++ [x]) = dic l :=
  asc_ext (dic_asc _) (dic_asc _) (fun z => by
    rw [mem_dic, mem_dic, List.mem_append, List.mem_singleton]
    exact ⟨fun h2 => h2.elim id (fun h3 => h3 ▸ h), .inl⟩)
theorem DictcolRepeats : lookoutlaw10_DictcolRepeats.Pure := by
  intro l hm hl hw
  refine Ev.rounds ?_
  obtain ⟨t, ht, hgr⟩ := great_ev l hw (by omega)
  unfold lookoutlaw10_DictcolRepeats.f
  refine Ev.bind ht ?_
  have hawake : Ev (fun k => lookoutlaw10_DictcolRepeats.j0 k l true) true := Ev.step (fun k => by rw [lookoutlaw10_DictcolRepeats.j0, if_pos rfl]) awake_end
  cases t with
  | true => exact Ev.congr (fun k => if_pos rfl) hawake
  | false =>
    have h40 := hgr rfl
    refine Ev.congr (fun k => if_neg (by simp)) ?_
    by_cases c : l.length = 0
    · rw [show ((l.length : Int) == 0) = true by simp [c]]; exact hawake
    · rw [show ((l.length : Int) == 0) = false by simp [c]]
      have hlt : l.length - 1 < l.length := by omega
      have hlast : rdOf ByteArray.empty l (wrap64 ((l.length : Int) - 1)) = l[l.length - 1] := by
        rw [w_in (by omega) (by omega), show (l.length : Int) - 1 = ((l.length - 1 : Nat) : Int) by omega, rdS_get hlt]
      have hmem : l[l.length - 1] ∈ l := List.getElem_mem hlt
      have hget : l.getLast? = some l[l.length - 1] := by rw [List.getLast?_eq_getElem?, List.getElem?_eq_getElem hlt]
      refine Ev.step (fun k => by rw [lookoutlaw10_DictcolRepeats.j0, if_neg (by simp)]) ?_
      refine Ev.bind (enc_ev l) ?_
      refine Ev.congr (fun k => by rw [show clone_str.f l = some l by unfold clone_str.f; rw [if_pos (by omega)], Option.bind_some, hlast, if_pos (by rw [w_in (by omega) (by omega)]; omega), if_pos (by rw [w_in (by omega) (by omega)]; omega), Option.bind_some, if_pos (by simp; omega)]) ?_
      generalize hx : l[l.length - 1] = x at *
      refine Ev.bind (enc_ev (l ++ [x])) ?_
      by_cases h : COL l
      · have h' : COL (l ++ [x]) := ⟨by simp; omega, long_of (fun s hs => by
          rcases List.mem_append.1 hs with h1 | h1
          · exact small_of h.2 s h1
          · exact small_of h.2 s (by rw [List.mem_singleton.1 h1]; exact hmem))⟩
        have e1 := enc_len41 h (by omega)
        have e2 := enc_len41 h' (by simp; omega)
        rw [dic_more hmem, runs_more x l.length l (Nat.le_refl _) hget] at e2
        have hsz : (strOfNums (encBytes (l ++ [x]))).size = (strOfNums (encBytes l)).size := by rw [str_size, str_size]; omega
        have hb : (strOfNums (encBytes l)).size ≤ 1048576 := by rw [str_size]; exact enc_size41 h (by omega)
        rw [enc_ok41 h (by omega), enc_ok41 h' (by simp; omega)]
        exact Ev.congr (fun k => by rw [if_pos rfl, if_pos (by show ((strOfNums (encBytes (l ++ [x]))).size : Int) ≤ wrap64 (((strOfNums (encBytes l)).size : Int) + 2); rw [w_in (by omega) (by omega)]; omega), if_pos (by show ((strOfNums (encBytes (l ++ [x]))).size : Int) ≥ ((strOfNums (encBytes l)).size : Int); omega)]) awake_end
      · have h' : ¬ COL (l ++ [x]) := fun hc => h ⟨by omega, long_of (fun s hs => small_of hc.2 s (List.mem_append_left _ hs))⟩
        rw [show ENC l = (⟨#[]⟩, 4) by unfold ENC; rw [if_neg h], show ENC (l ++ [x]) = (⟨#[]⟩, 4) by unfold ENC; rw [if_neg h']]
        exact Ev.congr (fun k => by rw [if_pos rfl, if_pos (by show ((0 : Nat) : Int) ≤ wrap64 (((0 : Nat) : Int) + 2); rw [w_in (by omega) (by omega)]; omega), if_pos (by show ((0 : Nat) : Int) ≥ ((0 : Nat) : Int); omega)]) awake_end
end Go.Proofs.Ytfklecicddpcjaa.Pure
