/- Plain facts on columns of strings: reading a whole encoding. No condition beyond those in the statements. -/
import Derived.Test.YtfklecicddpcjaaK4
namespace Go.Proofs.Ytfklecicddpcjaa.DK
open Go.RowKit Go.Proofs.Ytfklecicddpcjaa.VB Go.Proofs.Ytfklecicddpcjaa.A Go.Proofs.Ytfklecicddpcjaa.C Go.Proofs.Ytfklecicddpcjaa.Hand Go.Proofs.YtfklecicddpcjaaW.PrintWords Go.Proofs.YtfklecicddpcjaaW.PrintLast Go.Proofs.YtfklecicddpcjaaW.PrintMore
set_option linter.unusedVariables false
set_option linter.unusedSimpArgs false
theorem eqN_take (x : ByteArray) : ∀ r : List ByteArray, r.take (eqN x r) = List.replicate (eqN x r) x
  | [] => by simp [eqN]
  | y :: r => by
    unfold eqN
    split
    · rename_i h
      rw [List.take_succ_cons, eqN_take x r, tl_inj h, List.replicate_succ]
    · simp
theorem run_split (x : ByteArray) (r : List ByteArray) : List.replicate (eqN x r + 1) x ++ r.drop (eqN x r) = x :: r := by
  rw [List.replicate_succ, List.cons_append, ← eqN_take, List.take_append_drop]
theorem strL1 {count : Int} {d : List ByteArray} {s : ByteArray} {i : Int} {f : Bool} {p : Nat} (hp : p < d.length) (T : Nat) (hT : T ≤ 100000) {R : List ByteArray × ByteArray × Int × Bool} : ∀ (n t : Nat) (acc : List ByteArray), T - t = n → t ≤ T → acc.length + n ≤ 1000000 →
    Ev (fun k => dictcol_reader_strings.l0 k count d (acc ++ List.replicate n d[p]) s i f) R → Ev (fun k => dictcol_reader_strings.l1 k count d acc (p : Int) (T : Int) (t : Int) s i f) R := by
  intro n
  induction n with
  | zero =>
    intro t acc h ht ha hE
    rw [List.replicate_zero, List.append_nil] at hE
    exact Ev.step (fun k => by rw [dictcol_reader_strings.l1, if_neg (by omega)]) hE
  | succ n ih =>
    intro t acc h ht ha hE
    refine Ev.step (fun k => by rw [dictcol_reader_strings.l1, if_pos (by omega), if_pos (by omega), if_pos (by omega), if_pos (by omega), rdS_get hp, w1 (by omega)]) (ih (t + 1) (acc ++ [d[p]]) (by omega) (by omega) (by simp; omega) ?_)
    rw [List.append_assoc, List.singleton_append, ← List.replicate_succ]
    exact hE
theorem strP (s : ByteArray) (hs : s.size ≤ 140737488351232) (count : Nat) (hc : count ≤ 2000) (d : List ByteArray) (hd : d.length ≤ 2000) : ∀ (n : Nat) (m acc : List ByteArray) (i : Nat) (rest : List Int), m.length ≤ n → (bytesOf s).drop i = runB d (runL m) ++ rest → (∀ x ∈ m, x ∈ d) → acc.length + m.length = count →
    ∃ i' : Nat, Ev (fun k => dictcol_reader_strings.l0 k (count : Int) d acc s (i : Int) false) (acc ++ m, s, (i' : Int), false) ∧ (bytesOf s).drop i' = rest := by
  intro n
  induction n with
  | zero =>
    intro m acc i rest hn h hm hl
    obtain rfl : m = [] := List.eq_nil_of_length_eq_zero (by omega)
    refine ⟨i, ?_, by simpa [runL_nil, runB] using h⟩
    simp only [List.length_nil, Nat.add_zero] at hl
    rw [List.append_nil]
    exact Ev.step (fun k => by rw [dictcol_reader_strings.l0, if_neg (by omega)]) (Ev.step (fun k => by rw [dictcol_reader_strings.j1, if_neg (by simp)]) (Ev.now _))
  | succ n ih =>
    intro m acc i rest hn h hm hl
    cases m with
    | nil =>
      refine ⟨i, ?_, by simpa [runL_nil, runB] using h⟩
      simp only [List.length_nil, Nat.add_zero] at hl
      rw [List.append_nil]
      exact Ev.step (fun k => by rw [dictcol_reader_strings.l0, if_neg (by omega)]) (Ev.step (fun k => by rw [dictcol_reader_strings.j1, if_neg (by simp)]) (Ev.now _))
    | cons x r =>
      rw [List.length_cons] at hn hl
      have hxd := hm x (by simp)
      have hp := idxN_lt hxd
      have hget := idxN_get hxd
      have hle := eqN_le x r
      rw [runL_cons] at h
      simp only [runB, List.append_assoc] at h
      have ht : ((((eqN x r + 1 : Nat) : Int)) - 1).toNat = eqN x r := by omega
      rw [ht] at h
      generalize hN : idxN d x = p at *
      have hdp : d[p] = x := by
        rw [List.getElem?_eq_getElem hp] at hget
        exact Option.some.inj hget
      obtain ⟨a1, a2, a3⟩ := number_round (a := wrap64 ((d.length : Int) - 1)) h (by omega) (by rw [w_in (by omega) (by omega)]; omega) hs
      obtain ⟨b1, b2, b3⟩ := number_round (a := wrap64 ((wrap64 ((count : Int) - (acc.length : Int))) - 1)) a2 (by omega) (by rw [w_in (n := (count : Int) - (acc.length : Int)) (by omega) (by omega), w_in (by omega) (by omega)]; omega) hs
      obtain ⟨i', r1, r2⟩ := ih (r.drop (eqN x r)) (acc ++ List.replicate (eqN x r + 1) x) _ rest (by rw [List.length_drop]; omega) b2 (fun z hz => hm z (List.mem_cons_of_mem _ (List.mem_of_mem_drop hz))) (by rw [List.length_append, List.length_replicate, List.length_drop]; omega)
      refine ⟨i', ?_, r2⟩
      rw [List.append_assoc, run_split] at r1
      refine Ev.step (fun k => by rw [dictcol_reader_strings.l0, if_pos (by omega)]) ?_
      refine Ev.step (f := fun k => dictcol_reader_strings.l1 k (count : Int) d acc (p : Int) (((eqN x r + 1 : Nat) : Nat) : Int) ((0 : Nat) : Int) s ((i + (G p).length + (G (eqN x r)).length : Nat) : Int) false) (fun k => ?_) ?_
      · rw [dictcol_reader_strings.j1, if_pos (by simp), a1, Option.bind_some]
        dsimp only
        rw [b1, Option.bind_some]
        dsimp only
        rw [if_neg (by simp), w1 (by omega)]
        rfl
      · refine strL1 hp (eqN x r + 1) (by omega) (eqN x r + 1) 0 acc (by omega) (by omega) (by omega) ?_
        rw [hdp]; exact r1
theorem strT (s : ByteArray) (hs : s.size ≤ 140737488351232) (count : Nat) (hc : count ≤ 2000) (d : List ByteArray) (hd : d.length ≤ 2000) : ∀ (n : Nat) (acc : List ByteArray) (i : Nat) (f : Bool), count - acc.length ≤ n → acc.length ≤ count → i ≤ s.size →
    ∃ R : List ByteArray × ByteArray × Int × Bool, Ev (fun k => dictcol_reader_strings.l0 k (count : Int) d acc s (i : Int) f) R := by
  intro n
  induction n with
  | zero =>
    intro acc i f hn ha hi
    exact ⟨_, Ev.step (fun k => by rw [dictcol_reader_strings.l0, if_neg (by omega)]) (Ev.step (fun k => by rw [dictcol_reader_strings.j1, if_neg (by simp)]) (Ev.now _))⟩
  | succ n ih =>
    intro acc i f hn ha hi
    by_cases c1 : acc.length < count
    · cases f with
      | true => exact ⟨_, Ev.step (fun k => by rw [dictcol_reader_strings.l0, if_pos (by omega)]) (Ev.step (fun k => by rw [dictcol_reader_strings.j1, if_neg (by simp)]) (Ev.now _))⟩
      | false =>
        obtain ⟨n1, i1, f1, e1, g1, h1, h1'⟩ := number_any s i false (wrap64 ((d.length : Int) - 1)) hi hs
        obtain ⟨n2, i2, f2, e2, g2, h2, h2'⟩ := number_any s i1 f1 (wrap64 ((wrap64 ((count : Int) - (acc.length : Int))) - 1)) g1 hs
        cases f2 with
        | true =>
          refine ⟨([], s, (i2 : Int), true), Ev.step (fun k => by rw [dictcol_reader_strings.l0, if_pos (by omega)]) (Ev.step (fun k => ?_) (Ev.now _))⟩
          rw [dictcol_reader_strings.j1, if_pos (by simp), e1, Option.bind_some]
          dsimp only
          rw [e2, Option.bind_some]
          dsimp only
          rw [if_pos rfl]
        | false =>
          obtain ⟨q1, q2, q3⟩ := h2 rfl
          subst q1
          obtain ⟨_, q4, q5⟩ := h1 rfl
          rw [w_in (by omega) (by omega)] at q4
          rw [w_in (n := (count : Int) - (acc.length : Int)) (by omega) (by omega), w_in (by omega) (by omega)] at q2
          have hp : n1 < d.length := by omega
          obtain ⟨R, hR⟩ := ih (acc ++ List.replicate (n2 + 1) d[n1]) i2 false (by rw [List.length_append, List.length_replicate]; omega) (by rw [List.length_append, List.length_replicate]; omega) g2
          refine ⟨R, Ev.step (fun k => by rw [dictcol_reader_strings.l0, if_pos (by omega)]) (Ev.step (f := fun k => dictcol_reader_strings.l1 k (count : Int) d acc (n1 : Int) ((n2 + 1 : Nat) : Int) ((0 : Nat) : Int) s (i2 : Int) false) (fun k => ?_) (strL1 hp (n2 + 1) (by omega) (n2 + 1) 0 acc (by omega) (by omega) (by omega) hR))⟩
          rw [dictcol_reader_strings.j1, if_pos (by simp), e1, Option.bind_some]
          dsimp only
          rw [e2, Option.bind_some]
          dsimp only
          rw [if_neg (by simp), w1 (by omega)]
          rfl
    · exact ⟨_, Ev.step (fun k => by rw [dictcol_reader_strings.l0, if_neg (by omega)]) (Ev.step (fun k => by rw [dictcol_reader_strings.j1, if_neg (by simp)]) (Ev.now _))⟩
theorem enc_ok {l : List ByteArray} {s : ByteArray} (h : ENC l = (s, 0)) : COL l ∧ (encBytes l).length ≤ 1048576 ∧ s = strOfNums (encBytes l) := by
  unfold ENC at h
  split at h
  · rename_i hc
    split at h
    · cases h
    · rename_i h2
      cases h
      exact ⟨hc, by omega, rfl⟩
  · cases h
theorem readE_ev (s : ByteArray) (d l : List ByteArray) : Ev (fun k => readE k s d l) (if ENC l = (s, 0) then (d, l, true) else ([], [], false)) := by
  unfold readE
  refine Ev.bind (enc_ev l) ?_
  by_cases h : ENC l = (s, 0)
  · rw [if_pos h, h]
    exact Ev.congr (fun k => by rw [if_pos rfl, if_pos rfl]) (Ev.now _)
  · rw [if_neg h]
    by_cases h2 : (ENC l).2 = 0
    · refine Ev.congr (fun k => ?_) (Ev.now _)
      rw [if_pos h2, if_neg (fun h3 => h (Prod.ext (tl_inj h3) h2))]
    · exact Ev.congr (fun k => if_neg h2) (Ev.now _)
theorem read_total (s : ByteArray) : ∃ r, Ev (fun k => dictcol_read.f k s) r ∧ (r = ([], [], false) ∨ ∃ d l, r = (d, l, true) ∧ ENC l = (s, 0)) := by
  unfold dictcol_read.f
  by_cases c : (s.size : Int) > 1048576
  · exact ⟨_, Ev.congr (fun k => if_pos c) (Ev.now _), .inl rfl⟩
  · have hs : s.size ≤ 140737488351232 := by omega
    obtain ⟨n1, i1, f1, e1, g1, h1, h1'⟩ := number_any s 0 false 2000 (Nat.zero_le _) hs
    have hn1 : n1 ≤ 2000 := by
      cases f1 with
      | true => rw [h1' rfl]; omega
      | false => have := (h1 rfl).2.1; omega
    obtain ⟨n2, i2, f2, e2, g2, h2, h2'⟩ := number_any s i1 f1 (n1 : Int) g1 hs
    have hn2 : n2 ≤ 2000 := by
      cases f2 with
      | true => rw [h2' rfl]; omega
      | false => have := (h2 rfl).2.1; omega
    obtain ⟨d, i3, f3, e3, g3, hdl'⟩ := dictT s hs n2 hn2 n2 [] ⟨#[]⟩ i2 f2 (2 * n2 + 2) (by simp) (Nat.zero_le _) g2 (Nat.zero_le _) (Nat.le_refl _)
    have E3 : Ev (fun k => dictcol_reader_dictionary.f k s (i2 : Int) f2 (n2 : Int)) (d, s, (i3 : Int), f3) := Ev.of (fun k => dictcol_reader_dictionary.mono _ _ _ _ _) e3
    have hdl : d.length ≤ 2000 := by omega
    obtain ⟨⟨l, x2, x3, x4⟩, E4⟩ := strT s hs n1 hn1 d hdl n1 [] i3 f3 (by simp) (by simp) g3
    have e1' : dictcol_reader_number.f s 0 false 2000 = some ((n1 : Int), s, (i1 : Int), f1) := e1
    have key : ∀ r, Ev (fun k => if x4 = true then some (([], [], false) : List ByteArray × List ByteArray × Bool) else readE k s d l) r → Ev (fun k => if (s.size : Int) > 1048576 then some (([], [], false) : List ByteArray × List ByteArray × Bool) else ((dictcol_reader_number.f s 0 false 2000).bind fun p => (dictcol_reader_number.f p.2.1 p.2.2.1 p.2.2.2 p.1).bind fun q => (dictcol_reader_dictionary.f k q.2.1 q.2.2.1 q.2.2.2 q.1).bind fun d => (dictcol_reader_strings.f k d.2.1 d.2.2.1 d.2.2.2 p.1 d.1).bind fun t => if t.2.2.2 = true then some ([], [], false) else readE k s d.1 t.1)) r := by
      intro r hr
      refine Ev.congr (fun k => if_neg c) ?_
      refine Ev.congr (fun k => by rw [e1', Option.bind_some]) ?_
      dsimp only
      refine Ev.congr (fun k => by rw [e2, Option.bind_some]) ?_
      dsimp only
      exact Ev.bind E3 (Ev.bind E4 hr)
    by_cases cf : x4 = true
    · exact ⟨_, key _ (Ev.congr (fun k => if_pos cf) (Ev.now _)), .inl rfl⟩
    · refine ⟨_, key _ (Ev.congr (fun k => if_neg cf) (readE_ev s d l)), ?_⟩
      by_cases h : ENC l = (s, 0)
      · rw [if_pos h]; exact .inr ⟨d, l, rfl, h⟩
      · rw [if_neg h]; exact .inl rfl
theorem read_round {l : List ByteArray} {s : ByteArray} (h : ENC l = (s, 0)) : Ev (fun k => dictcol_read.f k s) (dic l, l, true) := by
  obtain ⟨hc, hlen, hse⟩ := enc_ok h
  have hb : bytesOf s = encBytes l := by rw [hse]; exact bytesOf_nums (encBytes_byte l)
  have hsz : s.size = (encBytes l).length := by rw [hse, str_size]
  have hs : s.size ≤ 140737488351232 := by omega
  have hd := dic_len l
  have hl := hc.1
  have h0 : (bytesOf s).drop 0 = G l.length ++ (G (dic l).length ++ (dictB (dic l) [] ++ runB (dic l) (runL l))) := by rw [List.drop_zero, hb]; rfl
  obtain ⟨a1, a2, a3⟩ := number_round (a := 2000) h0 (by omega) (by omega) hs
  obtain ⟨b1, b2, b3⟩ := number_round (a := (l.length : Int)) a2 (by omega) (by omega) hs
  obtain ⟨i3, c1, c2⟩ := dictP s hs (dic l).length (by omega) (dic l) [] ⟨#[]⟩ _ _ (2 * (dic l).length + 2) b2 (small_dic (small_of hc.2)) (Nat.zero_le _) (by simp) (Nat.le_refl _)
  have E3 := Ev.of (g := fun k => dictcol_reader_dictionary.f k s ((0 + (G l.length).length + (G (dic l).length).length : Nat) : Int) false ((dic l).length : Int)) (fun k => dictcol_reader_dictionary.mono _ _ _ _ _) c1
  obtain ⟨i4, E4, _⟩ := strP s hs l.length hl (dic l) (by omega) l.length l [] i3 [] (Nat.le_refl _) (by rw [c2, List.append_nil]) (fun x hx => mem_dic.2 hx) (by simp)
  rw [List.nil_append] at E3 E4
  have a1' : dictcol_reader_number.f s 0 false 2000 = some ((l.length : Int), s, ((0 + (G l.length).length : Nat) : Int), false) := a1
  unfold dictcol_read.f
  refine Ev.congr (fun k => if_neg (by omega)) ?_
  refine Ev.congr (fun k => by rw [a1', Option.bind_some]) ?_
  dsimp only
  refine Ev.congr (fun k => by rw [b1, Option.bind_some]) ?_
  dsimp only
  refine Ev.bind E3 (Ev.bind E4 ?_)
  have := readE_ev s (dic l) l
  rw [if_pos h] at this
  exact Ev.congr (fun k => if_neg (by simp)) this
end Go.Proofs.Ytfklecicddpcjaa.DK
