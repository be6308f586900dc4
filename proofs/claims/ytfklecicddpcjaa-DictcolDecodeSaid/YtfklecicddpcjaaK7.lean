/- Plain facts on columns of strings: the reference's Decode. No condition beyond those in the statements. -/
import Derived.Test.YtfklecicddpcjaaK6
import Derived.Test.YtfklecicddpcjaaPx39
namespace Go.Proofs.Ytfklecicddpcjaa.DK
open Go.RowKit Go.Proofs.Ytfklecicddpcjaa.VB Go.Proofs.Ytfklecicddpcjaa.P Go.Proofs.Ytfklecicddpcjaa.A Go.Proofs.Ytfklecicddpcjaa.Hand Go.Proofs.YtfklecicddpcjaaW.PrintWords Go.Proofs.YtfklecicddpcjaaW.PrintLast Go.Proofs.YtfklecicddpcjaaW.PrintMore
set_option linter.unusedVariables false
set_option linter.unusedSimpArgs false
theorem rread_ev (s : ByteArray) (a : Int) (hs : s.size ≤ 140737488351232) : Ev (fun k => lookoutref10_read.f k s a) (if (RD (bytesOf s)).2.2 = 0 then (if (RD (bytesOf s)).1 > a then (0, ⟨#[]⟩, false) else ((RD (bytesOf s)).1, s.extract (RD (bytesOf s)).2.1.toNat s.size, true)) else (0, ⟨#[]⟩, false)) := by
  unfold lookoutref10_read.f
  refine Ev.bind (readRef_ev s hs) ?_
  by_cases c : (RD (bytesOf s)).2.2 = 0
  · obtain ⟨g1, g2, g3, g4⟩ := RD_size (bytes_in s) c
    rw [bytes_len] at g2
    rw [if_pos c]
    by_cases c2 : (RD (bytesOf s)).1 > a
    · rw [if_pos c2]; exact Ev.congr (fun k => by rw [if_pos c, if_pos c2]) (Ev.now _)
    · rw [if_neg c2]; exact Ev.congr (fun k => by rw [if_pos c, if_neg c2, if_pos (by omega), if_pos (by omega)]) (Ev.now _)
  · rw [if_neg c]; exact Ev.congr (fun k => by first | rfl | rw [if_neg c]) (Ev.now _)
theorem rread_round {s : ByteArray} {n : Nat} {a : Int} {rest : List Int} (h : bytesOf s = G n ++ rest) (hn : n ≤ 1152921504606846976) (ha : (n : Int) ≤ a) (hs : s.size ≤ 140737488351232) :
    ∃ s' : ByteArray, Ev (fun k => lookoutref10_read.f k s a) ((n : Int), s', true) ∧ bytesOf s' = rest ∧ s'.size ≤ s.size := by
  have e := rread_ev s a hs
  rw [h, RD_round n rest hn] at e
  simp only [if_true] at e
  rw [if_neg (by omega), Int.toNat_natCast] at e
  refine ⟨_, e, by rw [bytesOf_from, h, List.drop_left], by rw [ByteArray.size_extract]; omega⟩
theorem rread_any (s : ByteArray) (a : Int) (hs : s.size ≤ 140737488351232) : ∃ (n : Nat) (s' : ByteArray) (ok : Bool), Ev (fun k => lookoutref10_read.f k s a) ((n : Int), s', ok) ∧ s'.size ≤ s.size ∧ (ok = true → (n : Int) ≤ a ∧ n ≤ 1152921504606846976) := by
  have e := rread_ev s a hs
  by_cases c : (RD (bytesOf s)).2.2 = 0
  · obtain ⟨g1, g2, g3, g4⟩ := RD_size (bytes_in s) c
    rw [if_pos c] at e
    by_cases c2 : (RD (bytesOf s)).1 > a
    · rw [if_pos c2] at e
      exact ⟨0, _, _, e, Nat.zero_le _, (fun h => by cases h)⟩
    · rw [if_neg c2] at e
      exact ⟨(RD (bytesOf s)).1.toNat, _, _, by rw [Int.toNat_of_nonneg g3]; exact e, by rw [ByteArray.size_extract]; omega, fun _ => ⟨by omega, by omega⟩⟩
  · rw [if_neg c] at e
    exact ⟨0, _, _, e, Nat.zero_le _, (fun h => by cases h)⟩
theorem size_bytes {s : ByteArray} {l : List Int} (h : bytesOf s = l) : s.size = l.length := by rw [← h, bytes_len]
theorem wordsP (count : Nat) (hc : count ≤ 2000) : ∀ (todo acc : List ByteArray) (bef s : ByteArray) (i : Nat) (rest : List Int), bytesOf s = dictB todo (bytesOf bef) ++ rest → s.size ≤ 140737488351232 → Small todo → bef.size ≤ 1000 → i + todo.length = count → acc.length = i →
    ∃ s' : ByteArray, Ev (fun k => lookoutref10_words.l0 k s (count : Int) acc bef (i : Int)) (acc ++ todo, s', true) ∧ bytesOf s' = rest ∧ s'.size ≤ s.size
  | [], acc, bef, s, i, rest, h, hs, _, _, hl, ha => by
    simp only [List.length_nil, Nat.add_zero] at hl
    refine ⟨s, ?_, by simpa [dictB] using h, Nat.le_refl _⟩
    rw [List.append_nil]
    exact Ev.step (fun k => by rw [lookoutref10_words.l0, if_neg (by omega)]) (Ev.now _)
  | x :: todo, acc, bef, s, i, rest, h, hs, hsm, hb, hl, ha => by
    have hx := hsm x (by simp)
    rw [List.length_cons] at hl
    have hcm := cmL_le (bytesOf bef) (bytesOf x)
    rw [bytes_len, bytes_len] at hcm
    have htk := cm_take (bytesOf bef) (bytesOf x)
    simp only [dictB, List.append_assoc] at h
    generalize hC : cmL (bytesOf bef) (bytesOf x) = c at *
    obtain ⟨s1, E1, b1, z1⟩ := rread_round (a := (bef.size : Int)) h (by omega) (by omega) hs
    obtain ⟨s2, E2, b2, z2⟩ := rread_round (a := 1000) b1 (by omega) (by omega) (by omega)
    have hz := size_bytes b2
    rw [List.length_append, List.length_drop, bytes_len] at hz
    have hx2 : bef.extract 0 c ++ s2.extract 0 (x.size - c) = x := by
      apply bytesOf_inj
      rw [bytesOf_append, bytesOf_extract, bytesOf_extract, List.drop_zero, Nat.sub_zero, List.drop_zero, Nat.sub_zero, b2, show x.size - c = ((bytesOf x).drop c).length by rw [List.length_drop, bytes_len], List.take_left, htk, List.take_append_drop]
    obtain ⟨s', r1, r2, r3⟩ := wordsP count hc todo (acc ++ [x]) x (s2.extract (x.size - c) s2.size) (i + 1) rest (by rw [bytesOf_from, b2, show x.size - c = ((bytesOf x).drop c).length by rw [List.length_drop, bytes_len], List.drop_left]) (by rw [ByteArray.size_extract]; omega) (fun z hz => hsm z (by simp [hz])) hx (by omega) (by simp; omega)
    refine ⟨s', ?_, r2, by rw [ByteArray.size_extract] at r3; omega⟩
    rw [List.append_assoc, List.singleton_append] at r1
    refine Ev.step (fun k => by rw [lookoutref10_words.l0, if_pos (by omega)]) ?_
    refine Ev.bind E1 (Ev.bind E2 ?_)
    refine Ev.congr (fun k => ?_) r1
    dsimp only
    rw [if_pos rfl, if_pos rfl, if_neg (by omega), w_in (by omega) (by omega), if_neg (by omega), if_pos (by omega), if_pos (by omega), if_pos (by omega), if_pos (by omega), Int.toNat_natCast, Int.toNat_natCast, if_pos (by rw [ByteArray.size_extract, ByteArray.size_extract]; omega), if_pos (by omega), w1 (by omega), hx2]
theorem wordsT (count : Nat) (hc : count ≤ 2000) : ∀ (n : Nat) (acc : List ByteArray) (bef s : ByteArray) (i : Nat), count - i ≤ n → s.size ≤ 140737488351232 → bef.size ≤ 1000 → acc.length = i → i ≤ count →
    ∃ (d : List ByteArray) (s' : ByteArray) (ok : Bool), Ev (fun k => lookoutref10_words.l0 k s (count : Int) acc bef (i : Int)) (d, s', ok) ∧ s'.size ≤ 140737488351232 ∧ d.length ≤ count := by
  intro n
  induction n with
  | zero =>
    intro acc bef s i hn hs hb ha hi
    exact ⟨acc, s, true, Ev.step (fun k => by rw [lookoutref10_words.l0, if_neg (by omega)]) (Ev.now _), hs, by omega⟩
  | succ n ih =>
    intro acc bef s i hn hs hb ha hi
    by_cases c1 : i < count
    · obtain ⟨n1, s1, k1, E1, z1, h1⟩ := rread_any s (bef.size : Int) hs
      obtain ⟨n2, s2, k2, E2, z2, h2⟩ := rread_any s1 1000 (by omega)
      have hfail : ∀ {g : Nat → Option (List ByteArray × ByteArray × Bool)}, (∀ k, g k = some (acc, ⟨#[]⟩, false)) → ∃ (d : List ByteArray) (s' : ByteArray) (ok : Bool), Ev g (d, s', ok) ∧ s'.size ≤ 140737488351232 ∧ d.length ≤ count := fun hg => ⟨acc, ⟨#[]⟩, false, Ev.congr hg (Ev.now _), Nat.zero_le _, by omega⟩
      have key : ∀ {g : Nat → Option (List ByteArray × ByteArray × Bool)} , (∃ (d : List ByteArray) (s' : ByteArray) (ok : Bool), Ev g (d, s', ok) ∧ s'.size ≤ 140737488351232 ∧ d.length ≤ count) → (∀ k, g k = (if k1 = true then (if k2 = true then (if (n2 : Int) > (s2.size : Int) then (some (acc, (⟨#[]⟩ : ByteArray), false)) else (if (wrap64 ((n1 : Int) + (n2 : Int))) > 1000 then (some (acc, (⟨#[]⟩ : ByteArray), false)) else (if 0 ≤ (n1 : Int) then (if (n1 : Int) ≤ (bef.size : Int) then (if 0 ≤ (n2 : Int) then (if (n2 : Int) ≤ (s2.size : Int) then (if (bef.extract 0 ((n1 : Int) : Int).toNat).size + (s2.extract 0 ((n2 : Int) : Int).toNat).size ≤ 9223372036854775807 then (if acc.length < 8796093022208 then (lookoutref10_words.l0 k (s2.extract ((n2 : Int) : Int).toNat s2.size) (count : Int) (acc ++ [(bef.extract 0 ((n1 : Int) : Int).toNat) ++ (s2.extract 0 ((n2 : Int) : Int).toNat)]) ((bef.extract 0 ((n1 : Int) : Int).toNat) ++ (s2.extract 0 ((n2 : Int) : Int).toNat)) (wrap64 ((i : Int) + 1))) else (none)) else (none)) else (none)) else (none)) else (none)) else (none)))) else (some (acc, (⟨#[]⟩ : ByteArray), false))) else (some (acc, (⟨#[]⟩ : ByteArray), false)))) → ∃ (d : List ByteArray) (s' : ByteArray) (ok : Bool), Ev (fun k => lookoutref10_words.l0 k s (count : Int) acc bef (i : Int)) (d, s', ok) ∧ s'.size ≤ 140737488351232 ∧ d.length ≤ count := by
        rintro g ⟨d, s', ok, e, z, l⟩ hg
        refine ⟨d, s', ok, Ev.step (fun k => by rw [lookoutref10_words.l0, if_pos (by omega)]) (Ev.bind E1 (Ev.bind E2 (Ev.congr (fun k => ?_) e))), z, l⟩
        exact (hg k).symm
      refine key (g := fun k => _) ?_ (fun k => rfl)
      cases k1 with
      | false => exact hfail (fun k => if_neg (by simp))
      | true =>
        cases k2 with
        | false => exact hfail (fun k => by rw [if_pos rfl, if_neg (by simp)])
        | true =>
          obtain ⟨g1, _⟩ := h1 rfl
          obtain ⟨g2, _⟩ := h2 rfl
          by_cases c2 : n2 > s2.size
          · exact hfail (fun k => by rw [if_pos rfl, if_pos rfl, if_pos (by omega)])
          · by_cases c3 : n1 + n2 > 1000
            · exact hfail (fun k => by rw [if_pos rfl, if_pos rfl, if_neg (by omega), w_in (by omega) (by omega), if_pos (by omega)])
            · obtain ⟨d, s', ok, e, z, l⟩ := ih (acc ++ [bef.extract 0 n1 ++ s2.extract 0 n2]) (bef.extract 0 n1 ++ s2.extract 0 n2) (s2.extract n2 s2.size) (i + 1) (by omega) (by rw [ByteArray.size_extract]; omega) (by rw [ByteArray.size_append, ByteArray.size_extract, ByteArray.size_extract]; omega) (by simp; omega) (by omega)
              refine ⟨d, s', ok, Ev.congr (fun k => ?_) e, z, l⟩
              rw [if_pos rfl, if_pos rfl, if_neg (by omega), w_in (by omega) (by omega), if_neg (by omega), if_pos (by omega), if_pos (by omega), if_pos (by omega), if_pos (by omega), Int.toNat_natCast, Int.toNat_natCast, if_pos (by rw [ByteArray.size_extract, ByteArray.size_extract]; omega), if_pos (by omega), w1 (by omega)]
    · exact ⟨acc, s, true, Ev.step (fun k => by rw [lookoutref10_words.l0, if_neg (by omega)]) (Ev.now _), hs, by omega⟩
/-- What the reference answers, once it has read a list. -/
def FIN (s : ByteArray) (l : List ByteArray) : List ByteArray × Int := if ENC l = (s, 0) then (l, 0) else ([], 12)
theorem fin_ev (s rest : ByteArray) (n : Int) (d acc : List ByteArray) : Ev (fun k => lookoutref10_Decode.j2 k s n rest d acc false) (FIN s acc) := by
  refine Ev.step (fun k => by rw [lookoutref10_Decode.j2, if_neg (by simp)]) ?_
  refine Ev.bind (encRef_ev acc) ?_
  unfold FIN
  by_cases h : ENC acc = (s, 0)
  · rw [if_pos h, h]
    exact Ev.congr (fun k => by rw [if_pos rfl, if_pos rfl]) (Ev.now _)
  · rw [if_neg h]
    by_cases h2 : (ENC acc).2 = 0
    · refine Ev.congr (fun k => ?_) (Ev.now _)
      rw [if_pos h2, if_neg (fun h3 => h (Prod.ext (tl_inj h3) h2))]
    · exact Ev.congr (fun k => if_neg h2) (Ev.now _)
theorem decL1 {s rest : ByteArray} {count : Int} {d : List ByteArray} {p : Nat} (hp : p < d.length) {R : List ByteArray × Int} : ∀ (n : Nat) (acc : List ByteArray), n ≤ 100000 → acc.length + n ≤ 1000000 →
    Ev (fun k => lookoutref10_Decode.l0 k s count rest d (acc ++ List.replicate n d[p])) R → Ev (fun k => lookoutref10_Decode.l1 k s count d acc (p : Int) ((n : Int) - 1) rest) R := by
  intro n
  induction n with
  | zero =>
    intro acc hn ha hE
    rw [List.replicate_zero, List.append_nil] at hE
    exact Ev.step (fun k => by rw [lookoutref10_Decode.l1, if_neg (by omega)]) hE
  | succ n ih =>
    intro acc hn ha hE
    refine Ev.step (fun k => by rw [lookoutref10_Decode.l1, if_pos (by omega), if_pos (by omega), if_pos (by omega), if_pos (by omega), rdS_get hp, w_in (by omega) (by omega), show ((n + 1 : Nat) : Int) - 1 - 1 = (n : Int) - 1 by omega]) (ih (acc ++ [d[p]]) (by omega) (by simp; omega) ?_)
    rw [List.append_assoc, List.singleton_append, ← List.replicate_succ]
    exact hE
theorem empty_iff (s : ByteArray) : s.toList = ([] : List UInt8) ↔ bytesOf s = [] := by
  rw [toL]
  unfold bytesOf
  rw [List.map_eq_nil_iff]
theorem decP (s : ByteArray) (count : Nat) (hc : count ≤ 2000) (d : List ByteArray) (hd : d.length ≤ 2000) : ∀ (n : Nat) (m acc : List ByteArray) (rest : ByteArray), m.length ≤ n → bytesOf rest = runB d (runL m) → rest.size ≤ 140737488351232 → (∀ x ∈ m, x ∈ d) → acc.length + m.length = count →
    Ev (fun k => lookoutref10_Decode.l0 k s (count : Int) rest d acc) (FIN s (acc ++ m)) := by
  intro n
  induction n with
  | zero =>
    intro m acc rest hn h hs hm hl
    obtain rfl : m = [] := List.eq_nil_of_length_eq_zero (by omega)
    rw [List.append_nil]
    exact Ev.step (fun k => by rw [lookoutref10_Decode.l0, if_pos ((empty_iff rest).2 (by simpa [runL_nil, runB] using h))]) (fin_ev s rest _ d acc)
  | succ n ih =>
    intro m acc rest hn h hs hm hl
    cases m with
    | nil =>
      rw [List.append_nil]
      exact Ev.step (fun k => by rw [lookoutref10_Decode.l0, if_pos ((empty_iff rest).2 (by simpa [runL_nil, runB] using h))]) (fin_ev s rest _ d acc)
    | cons x r =>
      rw [List.length_cons] at hn hl
      have hxd := hm x (by simp)
      have hp := idxN_lt hxd
      have hget := idxN_get hxd
      have hle := eqN_le x r
      rw [runL_cons] at h
      simp only [runB] at h
      have ht : ((((eqN x r + 1 : Nat) : Int)) - 1).toNat = eqN x r := by omega
      rw [ht] at h
      generalize hN : idxN d x = p at *
      have hdp : d[p] = x := by
        rw [List.getElem?_eq_getElem hp] at hget
        exact Option.some.inj hget
      have hne : ¬ rest.toList = ([] : List UInt8) := fun he => by
        have h1 := (empty_iff rest).1 he
        rw [h] at h1
        have := G_pos p
        have h2 := congrArg List.length h1
        rw [List.length_append, List.length_nil] at h2
        omega
      obtain ⟨s1, E1, b1, z1⟩ := rread_round (a := wrap64 ((d.length : Int) - 1)) h (by omega) (by rw [w_in (by omega) (by omega)]; omega) hs
      obtain ⟨s2, E2, b2, z2⟩ := rread_round (a := wrap64 ((wrap64 ((count : Int) - (acc.length : Int))) - 1)) b1 (by omega) (by rw [w_in (n := (count : Int) - (acc.length : Int)) (by omega) (by omega), w_in (by omega) (by omega)]; omega) (by omega)
      have hi := ih (r.drop (eqN x r)) (acc ++ List.replicate (eqN x r + 1) x) s2 (by rw [List.length_drop]; omega) b2 (by omega) (fun z hz => hm z (List.mem_cons_of_mem _ (List.mem_of_mem_drop hz))) (by rw [List.length_append, List.length_replicate, List.length_drop]; omega)
      rw [List.append_assoc, run_split] at hi
      refine Ev.step (fun k => by rw [lookoutref10_Decode.l0, if_neg hne, decide_eq_true (by omega : (acc.length : Int) < (count : Int))]) ?_
      refine Ev.step (fun k => by rw [lookoutref10_Decode.j2, if_pos rfl]) ?_
      refine Ev.bind E1 (Ev.bind E2 ?_)
      refine Ev.congr (fun k => if_pos rfl) ?_
      refine Ev.step (fun k => by rw [lookoutref10_Decode.j3, if_neg (by simp)]) ?_
      have := decL1 (s := s) (rest := s2) (count := (count : Int)) hp (eqN x r + 1) acc (by omega) (by omega) (by rw [hdp]; exact hi)
      rw [show (((eqN x r + 1 : Nat) : Int)) - 1 = (eqN x r : Int) by omega] at this
      exact this
theorem decT (s : ByteArray) (count : Nat) (hc : count ≤ 2000) (d : List ByteArray) (hd : d.length ≤ 2000) : ∀ (n : Nat) (acc : List ByteArray) (rest : ByteArray), count - acc.length ≤ n → acc.length ≤ count → rest.size ≤ 140737488351232 →
    ∃ R : List ByteArray × Int, Ev (fun k => lookoutref10_Decode.l0 k s (count : Int) rest d acc) R ∧ (R = ([], 12) ∨ ∃ l, R = FIN s l) := by
  intro n
  have hfin : ∀ (acc : List ByteArray) (rest : ByteArray), (rest.toList = [] ∨ count ≤ acc.length) → ∃ R : List ByteArray × Int, Ev (fun k => lookoutref10_Decode.l0 k s (count : Int) rest d acc) R ∧ (R = ([], 12) ∨ ∃ l, R = FIN s l) := by
    intro acc rest h
    refine ⟨_, ?_, .inr ⟨acc, rfl⟩⟩
    by_cases he : rest.toList = ([] : List UInt8)
    · exact Ev.step (fun k => by rw [lookoutref10_Decode.l0, if_pos he]) (fin_ev s rest _ d acc)
    · have h2 := h.resolve_left he
      exact Ev.step (fun k => by rw [lookoutref10_Decode.l0, if_neg he, decide_eq_false (by omega : ¬ (acc.length : Int) < (count : Int))]) (fin_ev s rest _ d acc)
  induction n with
  | zero => intro acc rest hn ha hs; exact hfin acc rest (.inr (by omega))
  | succ n ih =>
    intro acc rest hn ha hs
    by_cases he : rest.toList = ([] : List UInt8)
    · exact hfin acc rest (.inl he)
    · by_cases c1 : acc.length < count
      · obtain ⟨n1, s1, k1, E1, z1, h1⟩ := rread_any rest (wrap64 ((d.length : Int) - 1)) hs
        obtain ⟨n2, s2, k2, E2, z2, h2⟩ := rread_any s1 (wrap64 ((wrap64 ((count : Int) - (acc.length : Int))) - 1)) (by omega)
        have start : ∀ {R}, Ev (fun k => if k1 = true then lookoutref10_Decode.j3 k s (count : Int) d acc (n1 : Int) (n2 : Int) s2 (!k2) else lookoutref10_Decode.j3 k s (count : Int) d acc (n1 : Int) (n2 : Int) s2 true) R → Ev (fun k => lookoutref10_Decode.l0 k s (count : Int) rest d acc) R := fun h => by
          refine Ev.step (fun k => by rw [lookoutref10_Decode.l0, if_neg he, decide_eq_true (by omega : (acc.length : Int) < (count : Int))]) ?_
          refine Ev.step (fun k => by rw [lookoutref10_Decode.j2, if_pos rfl]) ?_
          exact Ev.bind E1 (Ev.bind E2 h)
        have bad : Ev (fun k => lookoutref10_Decode.j3 k s (count : Int) d acc (n1 : Int) (n2 : Int) s2 true) ([], 12) := Ev.step (fun k => by rw [lookoutref10_Decode.j3, if_pos rfl]) (Ev.now _)
        cases k1 with
        | false => exact ⟨_, start (Ev.congr (fun k => if_neg (by simp)) bad), .inl rfl⟩
        | true =>
          cases k2 with
          | false => exact ⟨_, start (Ev.congr (fun k => if_pos rfl) bad), .inl rfl⟩
          | true =>
            obtain ⟨q4, q5⟩ := h1 rfl
            obtain ⟨q2, q3⟩ := h2 rfl
            rw [w_in (by omega) (by omega)] at q4
            rw [w_in (n := (count : Int) - (acc.length : Int)) (by omega) (by omega), w_in (by omega) (by omega)] at q2
            have hp : n1 < d.length := by omega
            obtain ⟨R, hR, hR2⟩ := ih (acc ++ List.replicate (n2 + 1) d[n1]) s2 (by rw [List.length_append, List.length_replicate]; omega) (by rw [List.length_append, List.length_replicate]; omega) (by omega)
            have := decL1 (s := s) (rest := s2) (count := (count : Int)) hp (n2 + 1) acc (by omega) (by omega) hR
            rw [show (((n2 + 1 : Nat) : Int)) - 1 = (n2 : Int) by omega] at this
            exact ⟨R, start (Ev.congr (fun k => if_pos rfl) (Ev.step (fun k => by rw [lookoutref10_Decode.j3, if_neg (by simp)]) this)), hR2⟩
      · exact hfin acc rest (.inr (by omega))
theorem decRef_round {l : List ByteArray} {s : ByteArray} (h : ENC l = (s, 0)) : Ev (fun k => lookoutref10_Decode.f k s) (l, 0) := by
  obtain ⟨hc, hlen, hse⟩ := enc_ok h
  have hb : bytesOf s = encBytes l := by rw [hse]; exact bytesOf_nums (encBytes_byte l)
  have hsz : s.size = (encBytes l).length := by rw [hse, str_size]
  have hs : s.size ≤ 140737488351232 := by omega
  have hd := dic_len l
  have hl := hc.1
  obtain ⟨s1, E1, b1, z1⟩ := rread_round (a := 2000) hb (by omega) (by omega) hs
  obtain ⟨s2, E2, b2, z2⟩ := rread_round (a := 2000) b1 (by omega) (by omega) (by omega)
  obtain ⟨s3, E3, b3, z3⟩ := wordsP (dic l).length (by omega) (dic l) [] ⟨#[]⟩ s2 0 _ b2 (by omega) (small_dic (small_of hc.2)) (Nat.zero_le _) (by omega) rfl
  have E4 := decP s l.length hl (dic l) (by omega) l.length l [] s3 (Nat.le_refl _) b3 (by omega) (fun x hx => mem_dic.2 hx) (by simp)
  rw [List.nil_append] at E3 E4
  unfold lookoutref10_Decode.f
  refine Ev.bind E1 (Ev.bind E2 ?_)
  refine Ev.congr (fun k => if_pos rfl) ?_
  refine Ev.step (fun k => by rw [lookoutref10_Decode.j0, if_neg (by simp)]) ?_
  refine Ev.bind E3 ?_
  refine Ev.congr (fun k => if_pos rfl) ?_
  unfold FIN at E4
  rw [if_pos h] at E4
  exact E4
theorem decRef_total (s : ByteArray) (hs : s.size ≤ 140737488351232) : (∃ l, ENC l = (s, 0)) ∨ Ev (fun k => lookoutref10_Decode.f k s) ([], 12) := by
  obtain ⟨n1, s1, k1, E1, z1, h1⟩ := rread_any s 2000 hs
  obtain ⟨n2, s2, k2, E2, z2, h2⟩ := rread_any s1 2000 (by omega)
  have start : ∀ {R}, Ev (fun k => if k1 = true then lookoutref10_Decode.j0 k s (n1 : Int) s2 (n2 : Int) (!k2) else lookoutref10_Decode.j0 k s (n1 : Int) s2 (n2 : Int) true) R → Ev (fun k => lookoutref10_Decode.f k s) R := fun h => by
    unfold lookoutref10_Decode.f
    exact Ev.bind E1 (Ev.bind E2 h)
  have bad : Ev (fun k => lookoutref10_Decode.j0 k s (n1 : Int) s2 (n2 : Int) true) ([], 12) := Ev.step (fun k => by rw [lookoutref10_Decode.j0, if_pos rfl]) (Ev.now _)
  cases k1 with
  | false => exact .inr (start (Ev.congr (fun k => if_neg (by simp)) bad))
  | true =>
    cases k2 with
    | false => exact .inr (start (Ev.congr (fun k => if_pos rfl) bad))
    | true =>
      obtain ⟨q1, _⟩ := h1 rfl
      obtain ⟨q2, _⟩ := h2 rfl
      obtain ⟨d, s3, ok, E3, z3, hd⟩ := wordsT n2 (by omega) n2 [] ⟨#[]⟩ s2 0 (by omega) (by omega) (Nat.zero_le _) rfl (Nat.zero_le _)
      have go : ∀ {R}, Ev (fun k => if ok = true then lookoutref10_Decode.l0 k s (n1 : Int) s3 d [] else some ([], 12)) R → Ev (fun k => lookoutref10_Decode.f k s) R := fun h => by
        refine start (Ev.congr (fun k => if_pos rfl) ?_)
        refine Ev.step (fun k => by rw [lookoutref10_Decode.j0, if_neg (by simp)]) ?_
        exact Ev.bind E3 h
      cases ok with
      | false => exact .inr (go (Ev.congr (fun k => if_neg (by simp)) (Ev.now _)))
      | true =>
        obtain ⟨R, hR, hR2⟩ := decT s n1 (by omega) d (by omega) n1 [] s3 (by simp) (by simp) z3
        have := go (Ev.congr (fun k => if_pos rfl) hR)
        rcases hR2 with h | ⟨l, h⟩
        · rw [h] at this; exact .inr this
        · unfold FIN at h
          by_cases he : ENC l = (s, 0)
          · exact .inl ⟨l, he⟩
          · rw [if_neg he] at h
            rw [h] at this; exact .inr this
end Go.Proofs.Ytfklecicddpcjaa.DK
