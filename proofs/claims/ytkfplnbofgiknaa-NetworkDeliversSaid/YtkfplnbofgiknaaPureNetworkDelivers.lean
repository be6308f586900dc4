/- The network chapter delivers a packet as often and at the times that its fate's delays tell. No condition beyond those in the statement. -/
import Derived.Test.YtkfplnbofgiknaaK3
import Derived.Test.YtkfplnbofgiknaaPx12
namespace Go.Proofs.Ytkfplnbofgiknaa.Pure
open Go.RowKit Go.Proofs.Ytkfplnbofgiknaa.P Go.Proofs.Ytkfplnbofgiknaa.A Go.Proofs.Ytkfplnbofgiknaa.Hand Go.Proofs.YtkfplnbofgiknaaW.PrintWords Go.Proofs.YtkfplnbofgiknaaW.PrintLast Go.Proofs.YtkfplnbofgiknaaW.PrintMore Go.Proofs.Ytkfplnbofgiknaa.NB
theorem dl_in (a : Int) (h : 0 ≤ a) (hw : a ≤ 9223372036854775807) : ∀ d ∈ dlL a, 1 ≤ d ∧ d ≤ 8 := by
  have hl : 1 ≤ lateL a ∧ lateL a ≤ 8 := by
    unfold lateL
    have e1 : Int.tdiv a 4 = a / 4 := Int.tdiv_eq_ediv_of_nonneg h
    have e2 : wrap64 (Int.tdiv a 4) = a / 4 := by rw [e1]; unfold wrap64; omega
    have e3 : Int.tmod (a / 4) 8 = a / 4 % 8 := Int.tmod_eq_emod_of_nonneg (by omega)
    rw [e2, e3]
    unfold wrap64
    omega
  intro d hd
  unfold dlL at hd
  split at hd
  · cases hd
  · split at hd
    · obtain rfl := List.mem_singleton.1 hd; omega
    · split at hd
      · obtain rfl := List.mem_singleton.1 hd; exact hl
      · split at hd
        · rcases List.mem_cons.1 hd with rfl | hd
          · omega
          · obtain rfl := List.mem_singleton.1 hd; exact hl
        · cases hd
set_option linter.unusedVariables false
/-- How many of some delays are d. -/
def cnt (l : List Int) (d : Int) : Nat := (l.filter fun x => decide (x = d)).length
theorem cnt_take {l : List Int} {d : Int} {i : Nat} (h : i < l.length) : cnt (l.take (i + 1)) d = cnt (l.take i) d + (if l[i] = d then 1 else 0) := by
  unfold cnt
  rw [List.take_succ_eq_append_getElem h, List.filter_append, List.length_append]
  by_cases hc : l[i] = d <;> simp [hc]
theorem cnt_le (l : List Int) (d : Int) (i : Nat) : cnt (l.take i) d ≤ i := Nat.le_trans (List.length_filter_le _ _) (List.length_take_le _ _)
theorem LA_sent {now fate : Int} {p : Pk} (h0 : 0 ≤ now) (h1 : now ≤ 576460752303423488) (hd : ∀ d ∈ dlL fate, 1 ≤ d ∧ d ≤ 8) (j : Nat) (hj : j < 8) :
    LA now (sentL now fate p) j = List.replicate (cnt (dlL fate) ((j : Int) + 1)) p := by
  unfold LA sentL yesL cnt
  revert hd
  generalize dlL fate = l
  intro hd
  induction l with
  | nil => rfl
  | cons d l ih =>
    have h := hd d (List.mem_cons_self ..)
    have ih := ih (fun x hx => hd x (List.mem_cons_of_mem _ hx))
    have w : wrap64 (now + d) = now + d := by unfold wrap64; omega
    rw [List.map_cons, List.filter_cons, List.filter_cons]
    by_cases hc : d = (j : Int) + 1
    · rw [if_pos (by rw [decide_eq_true_eq]; dsimp only; rw [w]; omega), if_pos (by rw [decide_eq_true_eq]; exact hc), List.map_cons, ih, List.length_cons, List.replicate_succ]
    · rw [if_neg (by rw [decide_eq_true_eq]; dsimp only; rw [w]; omega), if_neg (by rw [decide_eq_true_eq]; exact hc), ih]
theorem other_no (p : Pk) (n : Nat) : (List.replicate n p).any (contains_other.other p.f0 p.f1 p.f2) = false := by
  rw [List.any_eq_false]
  intro q hq
  obtain rfl := List.eq_of_mem_replicate hq
  simp [contains_other.other]
theorem deliv_l1 (dl : List Int) (hdl : dl.length ≤ 2) (L : List (List Pk)) (m : Int) (a b : Int) (s : ByteArray) (j : Nat) (hj : j < 8)
    (next : Ev (fun k => lookoutlaw50_NetworkDelivers.l0 k dl L m ((j + 1 : Nat) : Int) a b s) true) : ∀ (d i : Nat), i + d = dl.length →
    Ev (fun k => lookoutlaw50_NetworkDelivers.l1 k dl (j : Int) (List.replicate (cnt dl ((j : Int) + 1)) ⟨a, b, s⟩) (cnt (dl.take i) ((j : Int) + 1) : Int) L m (j : Int) dl (dl.length : Int) (i : Int) a b s) true := by
  intro d
  induction d with
  | zero =>
    intro i h
    rw [List.take_of_length_le (by omega)]
    refine Ev.step (fun k => by rw [lookoutlaw50_NetworkDelivers.l1, if_neg (by omega), if_pos (by rw [List.length_replicate])]) ?_
    have e : contains_other.f (List.replicate (cnt dl ((j : Int) + 1)) ⟨a, b, s⟩) a b s = some false := by
      unfold contains_other.f
      rw [show (List.replicate (cnt dl ((j : Int) + 1)) (⟨a, b, s⟩ : Pk)).any (contains_other.other a b s) = false from other_no ⟨a, b, s⟩ _]
    refine Ev.congr (fun k => ?_) next
    rw [e, Option.bind_some, if_neg (by simp), w1 (by omega)]
  | succ d ih =>
    intro i h
    have hi : i < dl.length := by omega
    have hs := ih (i + 1) (by omega)
    rw [cnt_take hi] at hs
    have b1 := cnt_le dl ((j : Int) + 1) i
    have wj : wrap64 ((j : Int) + 1) = (j : Int) + 1 := by unfold wrap64; omega
    refine Ev.step (fun k => by rw [lookoutlaw50_NetworkDelivers.l1, if_pos (by omega), if_pos (by omega), if_pos (by omega), wj, rdI hi, w1 (i := i) (by omega), w1 (i := cnt (dl.take i) ((j : Int) + 1)) (by omega)]) ?_
    by_cases hc : dl[i] = (j : Int) + 1
    · rw [if_pos hc] at hs
      exact Ev.congr (fun k => if_pos hc) hs
    · rw [if_neg hc] at hs
      exact Ev.congr (fun k => if_neg hc) hs
theorem deliv_l0 {now fate : Int} {p : Pk} (h0 : 0 ≤ now) (h1 : now ≤ 576460752303423488) (hd : ∀ d ∈ dlL fate, 1 ≤ d ∧ d ≤ 8) : ∀ (d j : Nat), j + d = 8 →
    Ev (fun k => lookoutlaw50_NetworkDelivers.l0 k (dlL fate) (LS now (sentL now fate p) 8) ((LS now (sentL now fate p) 8).length : Int) (j : Int) p.f0 p.f1 p.f2) true := by
  have hL := LS_len now (sentL now fate p)
  intro d
  induction d with
  | zero => intro j h; exact Ev.step (fun k => by rw [lookoutlaw50_NetworkDelivers.l0, if_neg (by omega)]) awake_end
  | succ d ih =>
    intro j h
    refine Ev.step (fun k => ?_) (deliv_l1 (dlL fate) (dlL_len fate) (LS now (sentL now fate p) 8) ((LS now (sentL now fate p) 8).length : Int) p.f0 p.f1 p.f2 j (by omega) (ih (j + 1) (by omega)) (dlL fate).length 0 (by omega))
    rw [lookoutlaw50_NetworkDelivers.l0, if_pos (by omega), if_pos (by omega), if_pos (by omega), LS_at now _ (by omega), LA_sent h0 h1 hd j (by omega)]
    rfl
theorem NetworkDelivers : lookoutlaw50_NetworkDelivers.Pure := by
  intro now fate a b s hn hfw ha hb hs
  refine Ev.rounds ?_
  unfold lookoutlaw50_NetworkDelivers.f
  have ht : Ev (fun k => lookoutlaw50_NetworkDelivers.j0 k now fate true a b s) true := Ev.step (fun k => by rw [lookoutlaw50_NetworkDelivers.j0, if_pos rfl]) awake_end
  by_cases c1 : now < 0
  · exact Ev.congr (fun k => if_pos c1) ht
  by_cases c2 : now > 576460752303423488
  · exact Ev.congr (fun k => by rw [if_neg c1, if_pos c2]) ht
  by_cases c3 : fate < 0
  · exact Ev.congr (fun k => by rw [if_neg c1, if_neg c2, if_pos c3]) ht
  refine Ev.congr (fun k => by rw [if_neg c1, if_neg c2, if_neg c3]) ?_
  by_cases c4 : (s.size : Int) > 2000
  · rw [decide_eq_true c4]; exact ht
  rw [decide_eq_false c4]
  have hfb : fate ≤ 9223372036854775807 := by
    have := hfw
    simp [Lit.wf] at this
    first | omega | exact this.2
  have hdl := dl_in fate (by omega) hfb
  refine Ev.step (fun k => by rw [lookoutlaw50_NetworkDelivers.j0, if_neg (by simp)]) ?_
  refine Ev.bind (send_ev now [fate] [] a b s) ?_
  have hck : CK now [fate] [] = 0 := CK_of (by omega) (by omega) (by simp) (by simp) (fun x hx => by cases hx) (fun x hx => by obtain rfl := List.mem_singleton.1 hx; omega)
  unfold SEND
  rw [if_pos hck]
  by_cases hp : PK ⟨a, b, s⟩ = 0
  · have hls : (sentL now fate ⟨a, b, s⟩).length ≤ 2 := by rw [sentL_len]; exact dlL_len fate
    rw [if_pos hp, show fateL [fate] = fate from rfl, List.nil_append, if_neg (by omega)]
    refine Ev.congr (fun k => if_pos rfl) ?_
    have hck2 : CK now [] (sentL now fate ⟨a, b, s⟩) = 0 := CK_of (by omega) (by omega) (by omega) (by simp) (fun x hx => by
      obtain ⟨d, hd, rfl⟩ := List.mem_map.1 hx
      have h := hdl d hd
      have w : wrap64 (now + d) = now + d := by unfold wrap64; omega
      exact ⟨by dsimp only; omega, by dsimp only; omega, hp⟩) (fun x hx => by cases hx)
    refine Ev.bind (steps_ev hck2 (by omega)) ?_
    have w8 : wrap64 (now + 8) = now + ((8 : Nat) : Int) := by unfold wrap64; omega
    have hlen := dlL_len fate
    refine Ev.congr (f := fun k => lookoutlaw50_NetworkDelivers.j1 k (LS now (sentL now fate ⟨a, b, s⟩) 8) (dlL fate) false a b s) (fun k => ?_) ?_
    · simp only [network_Delays.f, Option.bind_some, network_Idle.f, List.length_nil]
      rw [if_pos trivial, if_pos (by rfl), if_pos w8.symm, if_pos (by rfl), decide_eq_false (by omega)]
    · exact Ev.step (fun k => by rw [lookoutlaw50_NetworkDelivers.j1, if_neg (by simp)]; rfl) (deliv_l0 (p := ⟨a, b, s⟩) (by omega) (by omega) hdl 8 0 rfl)
  · rw [if_neg hp]
    have hp2 : PK ⟨a, b, s⟩ = 2 ∧ (a < -1 ∨ 15 < a ∨ b < -1 ∨ 15 < b) := by
      unfold PK at hp ⊢
      dsimp only at hp ⊢
      split
      · rename_i h; exact ⟨rfl, h⟩
      · rename_i h
        rw [if_neg h, if_neg (by omega)] at hp
        exact absurd rfl hp
    refine Ev.congr (fun k => (if_neg hp).trans (if_pos hp2.1)) ?_
    by_cases d1 : a < -1
    · exact Ev.congr (fun k => if_pos d1) awake_end
    by_cases d2 : a > 15
    · exact Ev.congr (fun k => by rw [if_neg d1, if_pos d2]) awake_end
    by_cases d3 : b < -1
    · exact Ev.congr (fun k => by rw [if_neg d1, if_neg d2, if_pos d3]) awake_end
    · exact Ev.congr (fun k => by rw [if_neg d1, if_neg d2, if_neg d3, if_pos (by omega)]) awake_end
end Go.Proofs.Ytkfplnbofgiknaa.Pure
