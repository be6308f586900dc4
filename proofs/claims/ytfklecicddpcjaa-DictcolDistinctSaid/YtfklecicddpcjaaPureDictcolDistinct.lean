/- The distinct strings are the strings, ascending; their order does not matter. No condition beyond those in the statement. -/
import Derived.Test.YtfklecicddpcjaaK8
import Derived.Test.YtfklecicddpcjaaQx34
namespace Go.Proofs.Ytfklecicddpcjaa.Pure
open Go.RowKit Go.Proofs.Ytfklecicddpcjaa.Q Go.Proofs.Ytfklecicddpcjaa.P Go.Proofs.Ytfklecicddpcjaa.A Go.Proofs.Ytfklecicddpcjaa.Hand Go.Proofs.YtfklecicddpcjaaW.PrintWords Go.Proofs.YtfklecicddpcjaaW.PrintLast Go.Proofs.YtfklecicddpcjaaW.PrintMore Go.Proofs.Ytfklecicddpcjaa.DK Go.Proofs.Ytfklecicddpcjaa.VB
set_option linter.unusedVariables false
theorem dist_l1 (l : List ByteArray) (hl : l.length ≤ 41) : ∀ (n i : Nat), l.length - i = n → Ev (fun k => lookoutlaw10_DictcolDistinct.l1 k (dic l) 0 (dic l) 0 l (l.length : Int) (i : Int)) true := by
  have hd := dic_len l
  intro n
  induction n with
  | zero =>
    intro i hn
    refine Ev.step (fun k => by rw [lookoutlaw10_DictcolDistinct.l1, if_neg (by omega), if_pos rfl, if_pos rfl]) ?_
    refine Ev.bind (same_ev (dic l) (dic l) (by omega)) ?_
    exact Ev.congr (fun k => if_pos (by simp)) awake_end
  | succ n ih =>
    intro i hn
    have hlt : i < l.length := by omega
    refine Ev.step (fun k => by rw [lookoutlaw10_DictcolDistinct.l1, if_pos (by omega), if_pos (by omega), if_pos (by omega), rdS_get hlt]) ?_
    refine Ev.bind (containsS (dic l) l[i] (by omega)) ?_
    refine Ev.congr (fun k => by rw [if_pos (hasB_iff.2 (mem_dic.2 (List.getElem_mem hlt))), w1 (by omega)]) (ih (i + 1) (by omega))
theorem dist_l0 (l : List ByteArray) (hl : l.length ≤ 41) : ∀ (n i : Nat), (dic l).length - i = n → Ev (fun k => lookoutlaw10_DictcolDistinct.l0 k l (dic l) 0 (dic l) 0 (dic l) ((dic l).length : Int) (i : Int)) true := by
  have hd := dic_len l
  intro n
  induction n with
  | zero =>
    intro i hn
    exact Ev.step (fun k => by rw [lookoutlaw10_DictcolDistinct.l0, if_neg (by omega)]; rfl) (dist_l1 l hl l.length 0 (by omega))
  | succ n ih =>
    intro i hn
    have hlt : i < (dic l).length := by omega
    refine Ev.step (fun k => by rw [lookoutlaw10_DictcolDistinct.l0, if_pos (by omega), if_pos (by omega), if_pos (by omega), rdS_get hlt]) ?_
    refine Ev.bind (containsS l (dic l)[i] (by omega)) ?_
    refine Ev.congr (fun k => if_pos (hasB_iff.2 (mem_dic.1 (List.getElem_mem hlt)))) ?_
    by_cases c : i = 0
    · exact Ev.congr (fun k => by rw [if_neg (by omega), w1 (by omega)]) (ih (i + 1) (by omega))
    · have hlt2 : i - 1 < (dic l).length := by omega
      have e : wrap64 ((i : Int) - 1) = ((i - 1 : Nat) : Int) := by rw [w_in (by omega) (by omega)]; omega
      have hasc := List.pairwise_iff_getElem.1 (dic_asc l) (i - 1) i hlt2 hlt (by omega)
      exact Ev.congr (fun k => by rw [if_pos (by omega), e, if_pos (by omega), if_pos (by omega), rdS_get hlt2, if_pos (by rw [less_eq, toL, toL]; exact decide_eq_true hasc), w1 (by omega)]) (ih (i + 1) (by omega))
theorem DictcolDistinct : lookoutlaw10_DictcolDistinct.Pure := by
  intro l hm hl hw
  refine Ev.rounds ?_
  obtain ⟨t, ht, hgr⟩ := great_ev l hw (by omega)
  unfold lookoutlaw10_DictcolDistinct.f
  refine Ev.bind ht ?_
  cases t with
  | true => exact Ev.congr (fun k => if_pos rfl) awake_end
  | false =>
    have h40 := hgr rfl
    refine Ev.congr (fun k => if_neg (by simp)) ?_
    refine Ev.bind (enc_ev l) ?_
    refine Ev.congr (fun k => by rw [show clone_str.f l = some l by unfold clone_str.f; rw [if_pos (by omega)], Option.bind_some, show rev_str.f l = some l.reverse from rfl, Option.bind_some]) ?_
    refine Ev.bind (enc_ev l.reverse) ?_
    have hdr : dic l.reverse = dic l := asc_ext (dic_asc _) (dic_asc _) (fun z => by rw [mem_dic, mem_dic, List.mem_reverse])
    by_cases h : COL l
    · have h' : COL l.reverse := ⟨by rw [List.length_reverse]; exact h.1, long_of (fun s hs => small_of h.2 s (List.mem_reverse.1 hs))⟩
      have e1 := eok h (by omega)
      have e2 := eok h' (by rw [List.length_reverse]; omega)
      rw [e1, e2]
      refine Ev.congr (fun k => if_pos rfl) ?_
      refine Ev.step (fun k => by rw [lookoutlaw10_DictcolDistinct.j0, if_neg (by simp)]) ?_
      refine Ev.bind (distinct_round e1) ?_
      have hd2 := distinct_round e2
      rw [hdr] at hd2
      refine Ev.bind hd2 ?_
      exact dist_l0 l (by omega) (dic l).length 0 (by omega)
    · have h' : ¬ COL l.reverse := fun hc => h ⟨by omega, long_of (fun s hs => small_of hc.2 s (List.mem_reverse.2 hs))⟩
      rw [show ENC l = (⟨#[]⟩, 4) by unfold ENC; rw [if_neg h], show ENC l.reverse = (⟨#[]⟩, 4) by unfold ENC; rw [if_neg h']]
      refine Ev.congr (fun k => if_neg (by decide)) ?_
      exact Ev.step (fun k => by rw [lookoutlaw10_DictcolDistinct.j0, if_pos rfl, if_pos rfl]) awake_end
end Go.Proofs.Ytfklecicddpcjaa.Pure
