/- The encodings of values, and of the same values with a number added to each, differ only in the bytes of the first value. No condition beyond those in the statement. -/
import Derived.Test.YtbihedcjcmcjaaaAw
import Derived.Test.YtbihedcjcmcjaaaKK
import Derived.Test.YtbihedcjcmcjaaaPx14
namespace Go.Proofs.Ytbihedcjcmcjaaa.Pure
open Go.RowKit Go.Proofs.Ytbihedcjcmcjaaa.P Go.Proofs.Ytbihedcjcmcjaaa.C Go.Proofs.Ytbihedcjcmcjaaa.A Go.Proofs.Ytbihedcjcmcjaaa.Hand Go.Proofs.YtbihedcjcmcjaaaW.PrintWords Go.Proofs.YtbihedcjcmcjaaaW.PrintLast Go.Proofs.YtbihedcjcmcjaaaW.PrintMore Go.Proofs.Ytbihedcjcmcjaaa.VB Go.Proofs.Ytbihedcjcmcjaaa.DB
set_option linter.unusedVariables false
set_option linter.unusedSimpArgs false
theorem ext_pre {P R : List Int} (h : ∀ b ∈ P ++ R, 0 ≤ b ∧ b ≤ 255) : (strOfNums (P ++ R)).extract 0 P.length = strOfNums P := by
  apply bytesOf_inj
  rw [bytesOf_extract, bytesOf_nums h, bytesOf_nums (fun b hb => h b (by simp [hb])), List.drop_zero, Nat.sub_zero, List.take_left]
theorem ext_post {P R : List Int} (h : ∀ b ∈ P ++ R, 0 ≤ b ∧ b ≤ 255) : (strOfNums (P ++ R)).extract P.length (strOfNums (P ++ R)).size = strOfNums R := by
  apply bytesOf_inj
  rw [bytesOf_from, bytesOf_nums h, bytesOf_nums (fun b hb => h b (by simp [hb])), List.drop_left]
theorem diffL_map (c : Int) : ∀ l : List Int, diffL (l.map (· + c)) = diffL l
  | [] => rfl
  | [_] => rfl
  | x :: y :: r => by
    have h := diffL_map c (y :: r)
    simp only [List.map_cons] at h ⊢
    rw [diffL, diffL, h, show y + c - (x + c) = y - x by omega]
theorem clone_is (l : List Int) (hl : l.length < 8796093022208) : clone_int.f l = some l := if_pos hl
theorem set_step {l : List Int} {c : Int} {i : Nat} (h : i < l.length) : ((l.take i).map (· + c) ++ l.drop i).set i (l[i] + c) = (l.take (i + 1)).map (· + c) ++ l.drop (i + 1) := by
  have hlen : ((l.take i).map (· + c)).length = i := by rw [List.length_map, List.length_take]; omega
  rw [List.set_append_right _ _ (by omega), hlen, Nat.sub_self, dropI h, List.set_cons_zero, List.take_succ_eq_append_getElem h, List.map_append, List.append_assoc]
  rfl
theorem DeltacolShift : lookoutlaw09_DeltacolShift.Pure := by
  intro l c _ _ _ _
  refine Ev.rounds ?_
  have jt : Ev (fun k => lookoutlaw09_DeltacolShift.j0 k l c true) true := Ev.step (fun k => by rw [lookoutlaw09_DeltacolShift.j0, if_pos rfl]) awake_end
  by_cases h1 : (l.length : Int) = 0
  · exact Ev.congr (fun k => by rw [lookoutlaw09_DeltacolShift.f, if_pos h1]) jt
  by_cases h2 : (l.length : Int) > 50
  · exact Ev.congr (fun k => by rw [lookoutlaw09_DeltacolShift.f, if_neg h1, if_pos h2]) jt
  by_cases h3 : c < -1099511627776
  · exact Ev.congr (fun k => by rw [lookoutlaw09_DeltacolShift.f, if_neg h1, if_neg h2, if_pos h3]) jt
  by_cases h4 : c > 1099511627776
  · exact Ev.congr (fun k => by rw [lookoutlaw09_DeltacolShift.f, if_neg h1, if_neg h2, if_neg h3, decide_eq_true h4]) jt
  refine Ev.congr (f := fun k => lookoutlaw09_DeltacolShift.j0 k l c false) (fun k => by rw [lookoutlaw09_DeltacolShift.f, if_neg h1, if_neg h2, if_neg h3, decide_eq_false h4]) ?_
  have fin : (∀ x ∈ l, -1099511627776 ≤ x ∧ x ≤ 1099511627776) → Ev (fun k => lookoutlaw09_DeltacolShift.l0 k l c (l.map (· + c)) l (l.length : Int) (l.length : Int)) true := by
    intro hb
    obtain ⟨x, r, rfl⟩ : ∃ x r, l = x :: r := by
      cases l with
      | nil => simp at h1
      | cons x r => exact ⟨x, r, rfl⟩
    have hx := hb x (by simp)
    have ev1 : Ev (fun k => deltacol_EncodeValues.f k (x :: r)) (strOfNums (valuesB (x :: r)), 0) := by
      rcases encodeValues_ex (x :: r) (by omega) with ⟨_, h⟩ | ⟨h, _⟩
      · exact h
      · exact absurd (fun y hy => by have := hb y hy; omega) h
    have ev2 : Ev (fun k => deltacol_EncodeValues.f k ((x :: r).map (· + c))) (strOfNums (valuesB ((x :: r).map (· + c))), 0) := by
      rcases encodeValues_ex ((x :: r).map (· + c)) (by rw [List.length_map]; omega) with ⟨_, h⟩ | ⟨h, _⟩
      · exact h
      · refine absurd (fun y hy => ?_) h
        obtain ⟨z, hz, rfl⟩ := List.mem_map.1 hy
        have := hb z hz; omega
    have v1 : valuesB (x :: r) = (G (x :: r).length ++ G (zig x)) ++ runB (runL (diffL (x :: r))) := by
      unfold valuesB encB
      rw [Int.toNat_natCast, show (x :: r).take 1 = [x] from rfl, ZL_cons, ZL_nil, List.append_nil, List.append_assoc]
    have v2 : valuesB ((x :: r).map (· + c)) = (G (x :: r).length ++ G (zig (x + c))) ++ runB (runL (diffL (x :: r))) := by
      unfold valuesB encB
      rw [List.length_map, Int.toNat_natCast, diffL_map, show ((x :: r).map (· + c)).take 1 = [x + c] from rfl, ZL_cons, ZL_nil, List.append_nil, List.append_assoc]
    have y1 : ∀ b ∈ (G (x :: r).length ++ G (zig x)) ++ runB (runL (diffL (x :: r))), 0 ≤ b ∧ b ≤ 255 := by rw [← v1]; exact encB_byte _ _ _
    have y2 : ∀ b ∈ (G (x :: r).length ++ G (zig (x + c))) ++ runB (runL (diffL (x :: r))), 0 ≤ b ∧ b ≤ 255 := by rw [← v2]; exact encB_byte _ _ _
    have ap := append_ev ⟨#[]⟩ ((x :: r).length : Int) (by show 0 ≤ 4611686018427387904; omega)
    rw [show AP ⟨#[]⟩ ((x :: r).length : Int) = (strOfNums (G (x :: r).length), 0) by unfold AP; rw [if_neg (by omega), empty_append, Int.toNat_natCast]] at ap
    have hg := G_len9 (n := (x :: r).length) (by omega)
    have hsz : (strOfNums (G (x :: r).length)).size ≤ 4611686018427387904 := by rw [str_size]; omega
    have as1 := appendSigned_ev (strOfNums (G (x :: r).length)) x hsz
    have as2 := appendSigned_ev (strOfNums (G (x :: r).length)) (x + c) hsz
    rw [show AS (strOfNums (G (x :: r).length)) x = (strOfNums (G (x :: r).length ++ G (zig x)), 0) by unfold AS; rw [if_pos (by omega), strOfNums_append]] at as1
    rw [show AS (strOfNums (G (x :: r).length)) (x + c) = (strOfNums (G (x :: r).length ++ G (zig (x + c))), 0) by unfold AS; rw [if_pos (by omega), strOfNums_append]] at as2
    have rx : rd (x :: r) 0 = x := rfl
    have rxc : rd ((x :: r).map (· + c)) 0 = x + c := rfl
    have p1 := ext_pre y1
    have p2 := ext_pre y2
    have q1 := ext_post y1
    have q2 := ext_post y2
    rw [v1] at ev1
    rw [v2] at ev2
    clear v1 v2 y1 y2
    generalize G (x :: r).length ++ G (zig x) = P1 at *
    generalize G (x :: r).length ++ G (zig (x + c)) = P2 at *
    generalize runB (runL (diffL (x :: r))) = R at *
    have z1 : ((strOfNums P1).size : Int) ≤ ((strOfNums (P1 ++ R)).size : Int) := by rw [str_size, str_size, List.length_append]; omega
    have z2 : ((strOfNums P2).size : Int) ≤ ((strOfNums (P2 ++ R)).size : Int) := by rw [str_size, str_size, List.length_append]; omega
    have t1 : ((strOfNums P1).size : Int).toNat = P1.length := by rw [str_size, Int.toNat_natCast]
    have t2 : ((strOfNums P2).size : Int).toNat = P2.length := by rw [str_size, Int.toNat_natCast]
    refine Ev.step (fun k => by rw [lookoutlaw09_DeltacolShift.l0, if_neg (by omega)]) ?_
    refine Ev.bind ev1 ?_
    refine Ev.bind ev2 ?_
    refine Ev.bind ap ?_
    refine Ev.congr (fun k => by rw [if_pos (by simp only [List.length_cons]; omega), rx]) ?_
    refine Ev.bind as1 ?_
    refine Ev.congr (fun k => by rw [if_pos (by simp only [List.length_map, List.length_cons]; omega), rxc]) ?_
    refine Ev.bind as2 ?_
    refine Ev.congr (fun k => ?_) awake_end
    dsimp only
    rw [if_pos rfl, if_pos rfl, if_pos rfl, if_pos rfl, if_pos rfl, if_pos z1, if_pos z2, if_pos (by omega), if_pos z1, t1, p1, if_pos rfl, if_pos (by omega), if_pos z2, t2, p2, if_pos rfl, q1, q2, if_pos rfl]
  have loop : ∀ (d i : Nat), i + d = l.length → (∀ x ∈ l.take i, -1099511627776 ≤ x ∧ x ≤ 1099511627776) → Ev (fun k => lookoutlaw09_DeltacolShift.l0 k l c ((l.take i).map (· + c) ++ l.drop i) l (l.length : Int) (i : Int)) true := by
    intro d
    induction d with
    | zero =>
      intro i h hb
      obtain rfl : i = l.length := by omega
      rw [List.take_length] at hb ⊢
      rw [List.drop_length, List.append_nil]
      exact fin hb
    | succ d ih =>
      intro i h hb
      have hi : i < l.length := by omega
      by_cases h5 : l[i] < -1099511627776
      · exact Ev.step (fun k => by rw [lookoutlaw09_DeltacolShift.l0, if_pos (by omega), if_pos (by omega), if_pos (by omega), rdI hi, if_pos h5]) awake_end
      · by_cases h6 : l[i] > 1099511627776
        · exact Ev.step (fun k => by rw [lookoutlaw09_DeltacolShift.l0, if_pos (by omega), if_pos (by omega), if_pos (by omega), rdI hi, if_neg h5, if_pos h6]) awake_end
        · have hs := ih (i + 1) (by omega) (fun x hx => by
            rw [List.take_succ_eq_append_getElem hi] at hx
            rcases List.mem_append.1 hx with hx | hx
            · exact hb x hx
            · obtain rfl := List.mem_singleton.1 hx; omega)
          have hw : wrap64 (l[i] + c) = l[i] + c := by unfold wrap64; omega
          rw [← set_step hi] at hs
          have hl5 : (i : Int) < (((l.take i).map (· + c) ++ l.drop i).length : Int) := by rw [List.length_append, List.length_map, List.length_take, List.length_drop]; omega
          exact Ev.step (fun k => by rw [lookoutlaw09_DeltacolShift.l0, if_pos (by omega), if_pos (by omega), if_pos (by omega), rdI hi, if_neg h5, if_neg h6, if_pos hl5, hw, Int.toNat_natCast, w1 (by omega)]) hs
  refine Ev.step (f := fun k => lookoutlaw09_DeltacolShift.l0 k l c l l (l.length : Int) 0) (fun k => by rw [lookoutlaw09_DeltacolShift.j0, if_neg (by decide), clone_is l (by omega), Option.bind_some]) ?_
  have h0 := loop l.length 0 (by omega) (by simp)
  exact h0
end Go.Proofs.Ytbihedcjcmcjaaa.Pure
