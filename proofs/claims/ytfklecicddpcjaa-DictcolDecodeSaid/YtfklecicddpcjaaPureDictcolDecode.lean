/- Decoding answers as the reference does. No condition beyond those in the statement. -/
import Derived.Test.YtfklecicddpcjaaK7
import Derived.Test.YtfklecicddpcjaaPx40
import Derived.Test.YtfklecicddpcjaaPx41
import Derived.Test.YtfklecicddpcjaaPx42
import Derived.Test.YtfklecicddpcjaaPx43
import Derived.Test.YtfklecicddpcjaaPx44
import Derived.Test.YtfklecicddpcjaaPx45
namespace Go.Proofs.Ytfklecicddpcjaa.Pure
open Go.RowKit Go.Proofs.Ytfklecicddpcjaa.P Go.Proofs.Ytfklecicddpcjaa.A Go.Proofs.Ytfklecicddpcjaa.Hand Go.Proofs.YtfklecicddpcjaaW.PrintWords Go.Proofs.YtfklecicddpcjaaW.PrintLast Go.Proofs.YtfklecicddpcjaaW.PrintMore Go.Proofs.Ytfklecicddpcjaa.DK Go.Proofs.Ytfklecicddpcjaa.VB
set_option linter.unusedVariables false
theorem lookRef_l0 (v : ByteArray) (l : List ByteArray) (c : Int) (hl : l.length ≤ 1000000) : ∀ (n i : Nat) (acc : List Int), l.length - i = n → i ≤ l.length → acc.length + n ≤ 1000000 → Ev (fun k => lookoutref10_Lookup.l0 k v l c acc (i : Int)) (acc ++ LK v (l.drop i) i, c) := by
  intro n
  induction n with
  | zero =>
    intro i acc hn hi ha
    rw [List.drop_eq_nil_of_le (by omega), LK, List.append_nil]
    exact Ev.step (fun k => by rw [lookoutref10_Lookup.l0, if_neg (by omega)]) (Ev.now _)
  | succ n ih =>
    intro i acc hn hi ha
    have hlt : i < l.length := by omega
    rw [show l.drop i = l[i] :: l.drop (i + 1) from List.drop_eq_getElem_cons hlt, LK]
    by_cases c1 : l[i] = v
    · rw [if_pos c1, show acc ++ (i : Int) :: LK v (l.drop (i + 1)) (i + 1) = acc ++ [(i : Int)] ++ LK v (l.drop (i + 1)) (i + 1) by simp]
      exact Ev.step (fun k => by rw [lookoutref10_Lookup.l0, if_pos (by omega), if_pos (by omega), rdS_get hlt, if_pos (by rw [c1]), if_pos (by omega), w1 (by omega)]) (ih (i + 1) (acc ++ [(i : Int)]) (by omega) (by omega) (by simp; omega))
    · rw [if_neg c1]
      exact Ev.step (fun k => by rw [lookoutref10_Lookup.l0, if_pos (by omega), if_pos (by omega), rdS_get hlt, if_neg (fun h => c1 (tl_inj h)), w1 (by omega)]) (ih (i + 1) acc (by omega) (by omega) (by omega))
theorem tail_ev (s v : ByteArray) (p : Int) (l : List ByteArray) (c : Int) (d : List ByteArray) (m : List Int) (mc : Int) (x : ByteArray) (xc : Int) (hl : l.length < 140737488355328) (hd : d.length < 140737488355328) (hm : m.length < 140737488355328)
    (h1 : Ev (fun k => dictcol_Decode.f k s) (l, c)) (h2 : Ev (fun k => lookoutref10_Decode.f k s) (l, c))
    (h3 : Ev (fun k => dictcol_Distinct.f k s) (d, c)) (h4 : Ev (fun k => lookoutref10_Distinct.f k s) (d, c))
    (h5 : Ev (fun k => dictcol_Lookup.f k s v) (m, mc)) (h6 : Ev (fun k => lookoutref10_Lookup.f k s v) (m, mc))
    (h7 : Ev (fun k => dictcol_At.f k s p) (x, xc)) (h8 : Ev (fun k => lookoutref10_At.f k s p) (x, xc)) : Ev (fun k => lookoutlaw10_DictcolDecode.j0 k s v p false) true := by
  refine Ev.step (fun k => by rw [lookoutlaw10_DictcolDecode.j0, if_neg (by simp)]) ?_
  refine Ev.bind h1 (Ev.bind h2 (Ev.bind h3 (Ev.bind h4 (Ev.bind h5 (Ev.bind h6 (Ev.bind h7 (Ev.bind h8 ?_)))))))
  refine Ev.bind (same_ev l l hl) ?_
  refine Ev.congr (fun k => by rw [if_pos (by simp), if_pos rfl]) ?_
  refine Ev.bind (same_ev d d hd) ?_
  refine Ev.congr (fun k => by rw [if_pos (by simp), if_pos rfl]) ?_
  refine Ev.bind (same01_ev m m hm) ?_
  exact Ev.congr (fun k => by rw [if_pos (by simp), if_pos rfl, if_pos rfl, if_pos rfl]) awake_end
theorem DictcolDecode : lookoutlaw10_DictcolDecode.Pure := by
  intro s v p hs hv hp
  refine Ev.rounds ?_
  unfold lookoutlaw10_DictcolDecode.f
  have hawake : Ev (fun k => lookoutlaw10_DictcolDecode.j0 k s v p true) true := Ev.step (fun k => by rw [lookoutlaw10_DictcolDecode.j0, if_pos rfl]) awake_end
  by_cases c : (s.size : Int) > 600
  · exact Ev.congr (fun k => if_pos c) hawake
  · refine Ev.congr (fun k => if_neg c) ?_
    by_cases c2 : (v.size : Int) > 600
    · rw [decide_eq_true c2]; exact hawake
    · rw [decide_eq_false c2]
      by_cases hex : ∃ l, ENC l = (s, 0)
      · obtain ⟨l, h⟩ := hex
        have hl := (enc_ok h).1.1
        have hd := dic_len l
        have hk := LK_len v l 0
        have hr := read_round h
        have hD := decRef_round h
        refine tail_ev s v p l 0 (dic l) (LK v l 0) 0 (if p < 0 then ⟨#[]⟩ else if p ≥ (l.length : Int) then ⟨#[]⟩ else rdOf ByteArray.empty l p) (if p < 0 then 2 else if p ≥ (l.length : Int) then 2 else 0) (by omega) (by omega) (by omega) (decode_round h) hD ?_ ?_ (lookup_round v h) ?_ ?_ ?_
        · unfold dictcol_Distinct.f
          exact Ev.bind hr (Ev.congr (fun k => if_pos rfl) (Ev.now _))
        · unfold lookoutref10_Distinct.f
          exact Ev.bind hD (Ev.congr (fun k => if_pos rfl) (Ev.bind (dicRef_ev l (by omega)) (Ev.now _)))
        · unfold lookoutref10_Lookup.f
          refine Ev.bind hD ?_
          have := lookRef_l0 v l 0 (by omega) l.length 0 [] (by simp) (by omega) (by simp; omega)
          simpa using this
        · unfold dictcol_At.f
          refine Ev.bind hr (Ev.congr (fun k => if_pos rfl) ?_)
          refine Ev.congr (fun k => ?_) (Ev.now _)
          by_cases c3 : p < 0
          · simp [c3]
          · by_cases c4 : (l.length : Int) ≤ p
            · simp [c3, c4]
            · have c5 : 0 ≤ p := by omega
              have c6 : p < (l.length : Int) := by omega
              simp [c3, c4, c5, c6]
        · unfold lookoutref10_At.f
          refine Ev.bind hD (Ev.congr (fun k => if_pos rfl) ?_)
          refine Ev.congr (fun k => ?_) (Ev.now _)
          by_cases c3 : p < 0
          · simp [c3]
          · by_cases c4 : (l.length : Int) ≤ p
            · simp [c3, c4]
            · have c5 : 0 ≤ p := by omega
              have c6 : p < (l.length : Int) := by omega
              simp [c3, c4, c5, c6]
      · have hD := (decRef_total s hs).resolve_left hex
        have hd := (decode_total s).resolve_left hex
        obtain ⟨r, hr, rfl | ⟨d, l, _, h⟩⟩ := read_total s
        · refine tail_ev s v p [] 12 [] [] 12 ⟨#[]⟩ 12 (by simp) (by simp) (by simp) hd hD ?_ ?_ ?_ ?_ ?_ ?_
          · unfold dictcol_Distinct.f
            exact Ev.bind hr (Ev.congr (fun k => if_neg (by simp)) (Ev.now _))
          · unfold lookoutref10_Distinct.f
            exact Ev.bind hD (Ev.congr (fun k => if_neg (by simp)) (Ev.now _))
          · unfold dictcol_Lookup.f
            exact Ev.bind hr (Ev.congr (fun k => if_neg (by simp)) (Ev.now _))
          · unfold lookoutref10_Lookup.f
            refine Ev.bind hD ?_
            have := lookRef_l0 v [] 12 (by simp) 0 0 [] (by simp) (by simp) (by simp)
            simpa [LK] using this
          · unfold dictcol_At.f
            exact Ev.bind hr (Ev.congr (fun k => if_neg (by simp)) (Ev.now _))
          · unfold lookoutref10_At.f
            exact Ev.bind hD (Ev.congr (fun k => if_neg (by simp)) (Ev.now _))
        · exact absurd ⟨l, h⟩ hex
end Go.Proofs.Ytfklecicddpcjaa.Pure
