/- Lookup finds every string at its indices, and every index once. No condition beyond those in the statement. -/
import Derived.Test.YtfklecicddpcjaaK8
import Derived.Test.YtfklecicddpcjaaQx53
namespace Go.Proofs.Ytfklecicddpcjaa.Pure
open Go.RowKit Go.Proofs.Ytfklecicddpcjaa.Q Go.Proofs.Ytfklecicddpcjaa.P Go.Proofs.Ytfklecicddpcjaa.A Go.Proofs.Ytfklecicddpcjaa.Hand Go.Proofs.YtfklecicddpcjaaW.PrintWords Go.Proofs.YtfklecicddpcjaaW.PrintLast Go.Proofs.YtfklecicddpcjaaW.PrintMore Go.Proofs.Ytfklecicddpcjaa.DK Go.Proofs.Ytfklecicddpcjaa.VB
set_option linter.unusedVariables false
theorem look_l1 (l : List ByteArray) (v s : ByteArray) (h : ENC l = (s, 0)) (hl : l.length ≤ 41) : ∀ (n i : Nat), l.length - i = n → i ≤ l.length → Ev (fun k => lookoutlaw10_DictcolLookup.l1 k l v s (LK v l 0) (RNG l.length) l (l.length : Int) (i : Int)) true := by
  have hk := LK_len v l 0
  have hR : (RNG l.length).length = l.length := by simp [RNG]
  intro n
  induction n with
  | zero =>
    intro i hn hi
    refine Ev.step (fun k => by rw [lookoutlaw10_DictcolLookup.l1, if_neg (by omega)]) ?_
    refine Ev.bind (at_end h) ?_
    exact Ev.congr (fun k => by rw [if_pos (by rw [toL]), if_pos rfl]) awake_end
  | succ n ih =>
    intro i hn hi
    have hlt : i < l.length := by omega
    refine Ev.step (fun k => by rw [lookoutlaw10_DictcolLookup.l1, if_pos (by omega), if_pos (by omega), if_pos (by omega)]) ?_
    refine Ev.bind (at_round h hlt) ?_
    refine Ev.congr (fun k => by rw [if_pos rfl, rdS_get hlt, if_pos rfl, if_pos (by omega), if_pos (rng_get hlt)]) ?_
    refine Ev.bind (containsI (LK v l 0) (i : Int) (by omega)) ?_
    have e : decide ((i : Int) ∈ LK v l 0) = (l[i].toList == v.toList) := by
      have e1 : ((i : Int) ∈ LK v l 0) ↔ l[i] = v := by
        rw [mem_LK]
        constructor
        · rintro ⟨j, h1, h2, h3⟩
          have : i = j := by omega
          subst this
          exact h2
        · intro h2; exact ⟨i, hlt, h2, by omega⟩
      by_cases c : l[i] = v
      · rw [decide_eq_true (e1.2 c), c]; simp
      · rw [decide_eq_false (fun h => c (e1.1 h))]
        have : ¬ l[i].toList = v.toList := fun h => c (tl_inj h)
        simp [this]
    exact Ev.congr (fun k => by rw [e, if_neg (by simp), w1 (by omega)]) (ih (i + 1) (by omega) (by omega))
theorem look_l0 (l : List ByteArray) (v s : ByteArray) (h : ENC l = (s, 0)) (hl : l.length ≤ 41) : ∀ (n i : Nat), (dic l).length - i = n → i ≤ (dic l).length → Ev (fun k => lookoutlaw10_DictcolLookup.l0 k l v s (LK v l 0) (ALLI l ((dic l).take i)) (dic l) ((dic l).length : Int) (i : Int)) true := by
  have hd := dic_len l
  have hp := (alli_perm l).length_eq
  have hR : (RNG l.length).length = l.length := by simp [RNG]
  intro n
  induction n with
  | zero =>
    intro i hn hi
    rw [List.take_of_length_le (by omega)]
    refine Ev.step (fun k => by rw [lookoutlaw10_DictcolLookup.l0, if_neg (by omega), show sort_int.f (ALLI l (dic l)) = some (RNG l.length) by unfold sort_int.f; rw [if_pos (by omega), sortI_alli], Option.bind_some, if_pos (by omega)]) ?_
    exact look_l1 l v s h hl l.length 0 (by omega) (by omega)
  | succ n ih =>
    intro i hn hi
    have hlt : i < (dic l).length := by omega
    have hmem : (dic l)[i] ∈ l := mem_dic.1 (List.getElem_mem hlt)
    have hLn := LK_len (dic l)[i] l 0
    have hne : (LK (dic l)[i] l 0).length ≠ 0 := by
      obtain ⟨j, h1, h2⟩ := List.getElem_of_mem hmem
      have hz := (mem_LK (dic l)[i] l 0 (((0 + j : Nat) : Int))).2 ⟨j, h1, h2, rfl⟩
      intro h0
      rw [List.eq_nil_of_length_eq_zero h0] at hz
      simp at hz
    have hsz : (ALLI l ((dic l).take i)).length ≤ l.length := by
      rw [← hR, ← hp]
      unfold ALLI
      conv => rhs; rw [← List.take_append_drop i (dic l), List.flatMap_append, List.length_append]
      omega
    have hsp : ALLI l ((dic l).take i) ++ LK (dic l)[i] l 0 = ALLI l ((dic l).take (i + 1)) := by
      unfold ALLI
      rw [List.take_succ_eq_append_getElem hlt, List.flatMap_append]
      simp
    refine Ev.step (fun k => by rw [lookoutlaw10_DictcolLookup.l0, if_pos (by omega), if_pos (by omega), if_pos (by omega), rdS_get hlt]) ?_
    refine Ev.bind (lookup_round (dic l)[i] h) ?_
    dsimp only
    refine Ev.congr (fun k => by rw [if_pos rfl, if_neg (by omega)]) ?_
    refine Ev.bind (isSorted (LK (dic l)[i] l 0) (by omega) ((LK_asc _ l 0).imp (fun h => Int.le_of_lt h))) ?_
    exact Ev.congr (fun k => by rw [if_pos rfl, if_pos (by omega), hsp, w1 (by omega)]) (ih (i + 1) (by omega) (by omega))
theorem DictcolLookup : lookoutlaw10_DictcolLookup.Pure := by
  intro l v hm hl hw hv
  refine Ev.rounds ?_
  obtain ⟨t, ht, hgr⟩ := great_ev l hw (by omega)
  unfold lookoutlaw10_DictcolLookup.f
  have hawake : Ev (fun k => lookoutlaw10_DictcolLookup.j0 k l v true) true := Ev.step (fun k => by rw [lookoutlaw10_DictcolLookup.j0, if_pos rfl]) awake_end
  refine Ev.bind ht ?_
  cases t with
  | true => exact Ev.congr (fun k => if_pos rfl) hawake
  | false =>
    have h40 := hgr rfl
    refine Ev.congr (fun k => if_neg (by simp)) ?_
    by_cases c : (v.size : Int) > 1100
    · rw [decide_eq_true c]; exact hawake
    · rw [decide_eq_false c]
      refine Ev.step (fun k => by rw [lookoutlaw10_DictcolLookup.j0, if_neg (by simp)]) ?_
      refine Ev.bind (enc_ev l) ?_
      by_cases h : COL l
      · have e1 := eok h (by omega)
        have hk := LK_len v l 0
        rw [e1]
        refine Ev.congr (fun k => if_pos rfl) ?_
        refine Ev.bind (lookup_round v e1) (Ev.bind (distinct_round e1) ?_)
        refine Ev.congr (fun k => by rw [if_pos rfl, if_pos rfl]) ?_
        refine Ev.bind (containsS l v (by omega)) ?_
        have e : (decide (((LK v l 0).length : Int) > 0) != hasB v l) = false := by
          have e2 : (((LK v l 0).length : Int) > 0) ↔ v ∈ l := by
            constructor
            · intro hp
              obtain ⟨z, hz⟩ := List.exists_mem_of_length_pos (l := LK v l 0) (by omega)
              obtain ⟨j, h1, h2, _⟩ := (mem_LK v l 0 z).1 hz
              rw [← h2]; exact List.getElem_mem h1
            · intro hm
              obtain ⟨j, h1, h2⟩ := List.getElem_of_mem hm
              have := List.length_pos_of_mem ((mem_LK v l 0 (((0 + j : Nat) : Int))).2 ⟨j, h1, h2, rfl⟩)
              omega
          have e3 : decide (((LK v l 0).length : Int) > 0) = hasB v l := by rw [Bool.eq_iff_iff, hasB_iff, decide_eq_true_iff]; exact e2
          rw [e3]; simp
        rw [e]
        refine Ev.step (fun k => by rw [lookoutlaw10_DictcolLookup.j1, if_neg (by simp)]) ?_
        have := look_l0 l v _ e1 (by omega) (dic l).length 0 (by omega) (by omega)
        simpa [ALLI] using this
      · rw [show ENC l = (⟨#[]⟩, 4) by unfold ENC; rw [if_neg h]]
        exact Ev.congr (fun k => if_neg (by decide)) awake_end
end Go.Proofs.Ytfklecicddpcjaa.Pure
