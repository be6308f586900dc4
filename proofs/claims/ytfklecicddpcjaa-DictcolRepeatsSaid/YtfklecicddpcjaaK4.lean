/- Plain facts on columns of strings: what reading an encoding yields. No condition beyond those in the statements. -/
import Derived.Test.YtfklecicddpcjaaK3
import Derived.Test.YtfklecicddpcjaaHRd
namespace Go.Proofs.Ytfklecicddpcjaa.DK
open Go.RowKit Go.Proofs.Ytfklecicddpcjaa.VB Go.Proofs.Ytfklecicddpcjaa.A Go.Proofs.Ytfklecicddpcjaa.C Go.Proofs.Ytfklecicddpcjaa.Hand Go.Proofs.YtfklecicddpcjaaW.PrintWords Go.Proofs.YtfklecicddpcjaaW.PrintLast Go.Proofs.YtfklecicddpcjaaW.PrintMore
set_option linter.unusedVariables false
set_option linter.unusedSimpArgs false
/-! ### the reader's steps -/
theorem number_at (s : ByteArray) (i : Nat) (a : Int) (h1 : i ≤ s.size) : dictcol_reader_number.f s (i : Int) false a = (if (RD ((bytesOf s).drop i)).2.2 = 0 then (if (RD ((bytesOf s).drop i)).1 > a then some (0, s, (i : Int), true) else some ((RD ((bytesOf s).drop i)).1, s, wrap64 ((i : Int) + (RD ((bytesOf s).drop i)).2.1), false)) else some (0, s, (i : Int), true)) := by
  unfold dictcol_reader_number.f numR
  rw [if_neg (by simp), if_pos (by omega), if_pos (by omega), read_is, Option.bind_some, Int.toNat_natCast, bytesOf_from]
theorem number_failed (s : ByteArray) (i : Int) (a : Int) : dictcol_reader_number.f s i true a = some (0, s, i, true) := by
  unfold dictcol_reader_number.f numR
  rw [if_pos rfl]
theorem number_any (s : ByteArray) (i : Nat) (f : Bool) (a : Int) (h1 : i ≤ s.size) (hs : s.size ≤ 140737488351232) : ∃ (n i' : Nat) (f' : Bool), dictcol_reader_number.f s (i : Int) f a = some ((n : Int), s, (i' : Int), f') ∧ i' ≤ s.size ∧ (f' = false → f = false ∧ (n : Int) ≤ a ∧ n ≤ 1152921504606846976) ∧ (f' = true → n = 0) := by
  cases f with
  | true => exact ⟨0, i, true, by rw [number_failed]; rfl, h1, (fun h => by cases h), fun _ => rfl⟩
  | false =>
    rw [number_at s i a h1]
    by_cases c : (RD ((bytesOf s).drop i)).2.2 = 0
    · obtain ⟨g1, g2, g3, g4⟩ := RD_size (drop_byte (bytes_in s) i) c
      rw [List.length_drop, bytes_len] at g2
      rw [if_pos c]
      by_cases c2 : (RD ((bytesOf s).drop i)).1 > a
      · rw [if_pos c2]
        exact ⟨0, i, true, rfl, h1, (fun h => by cases h), fun _ => rfl⟩
      · rw [if_neg c2]
        refine ⟨(RD ((bytesOf s).drop i)).1.toNat, i + (RD ((bytesOf s).drop i)).2.1.toNat, false, ?_, by omega, fun _ => ⟨rfl, by omega, by omega⟩, (fun h => by cases h)⟩
        rw [w_in (by omega) (by omega), show ((i + (RD ((bytesOf s).drop i)).2.1.toNat : Nat) : Int) = (i : Int) + (RD ((bytesOf s).drop i)).2.1 by omega, Int.toNat_of_nonneg g3]
    · rw [if_neg c]
      exact ⟨0, i, true, rfl, h1, (fun h => by cases h), fun _ => rfl⟩
theorem number_round {s : ByteArray} {i n : Nat} {a : Int} {rest : List Int} (h : (bytesOf s).drop i = G n ++ rest) (hn : n ≤ 1152921504606846976) (ha : (n : Int) ≤ a) (hs : s.size ≤ 140737488351232) :
    dictcol_reader_number.f s (i : Int) false a = some ((n : Int), s, ((i + (G n).length : Nat) : Int), false) ∧ (bytesOf s).drop (i + (G n).length) = rest ∧ i + (G n).length ≤ s.size := by
  have hl := congrArg List.length h
  rw [List.length_drop, bytes_len, List.length_append] at hl
  have hp := G_pos n
  have hi : i + (G n).length ≤ s.size := by omega
  refine ⟨?_, ?_, hi⟩
  · rw [number_at s i a (by omega), h, RD_round n rest hn]
    simp only [if_true]
    rw [if_neg (by omega), w_in (by omega) (by omega)]
    congr 4
  · rw [← List.drop_drop, h, List.drop_left]
theorem bytes_at (s : ByteArray) (i n : Nat) (h : i + n ≤ s.size) (hs : s.size ≤ 140737488351232) : dictcol_reader_bytes.f s (i : Int) false (n : Int) = some (s.extract i (i + n), s, ((i + n : Nat) : Int), false) := by
  unfold dictcol_reader_bytes.f
  rw [if_neg (by simp), w_in (by omega) (by omega), if_neg (by omega), if_pos (by omega), w_in (by omega) (by omega), if_pos (by omega), if_pos (by omega)]
  rw [show (i : Int) + (n : Int) = ((i + n : Nat) : Int) by omega, Int.toNat_natCast, Int.toNat_natCast]
theorem bytes_any (s : ByteArray) (i n : Nat) (f : Bool) (h : i ≤ s.size) (hs : s.size ≤ 140737488351232) (hn : n ≤ 1152921504606846976) : ∃ (r : ByteArray) (i' : Nat) (f' : Bool), dictcol_reader_bytes.f s (i : Int) f (n : Int) = some (r, s, (i' : Int), f') ∧ i' ≤ s.size ∧ r.size ≤ n ∧ (f' = false → f = false) := by
  cases f with
  | true => exact ⟨⟨#[]⟩, i, true, by unfold dictcol_reader_bytes.f; rw [if_pos rfl], h, Nat.zero_le _, fun h => h⟩
  | false =>
    by_cases c : i + n ≤ s.size
    · exact ⟨_, i + n, false, bytes_at s i n c hs, c, by rw [ByteArray.size_extract]; omega, fun _ => rfl⟩
    · refine ⟨⟨#[]⟩, i, true, ?_, h, Nat.zero_le _, fun h => by cases h⟩
      unfold dictcol_reader_bytes.f
      rw [if_neg (by simp), w_in (by omega) (by omega), if_pos (by omega)]
/-! ### the dictionary -/
theorem cm_take : ∀ a b : List Int, a.take (cmL a b) = b.take (cmL a b)
  | [], b => by rw [cmL_nil]; simp
  | x :: a, [] => by simp [cmL]
  | x :: a, y :: b => by
    unfold cmL
    split
    · rename_i h
      rw [List.take_succ_cons, List.take_succ_cons, h, cm_take a b]
    · simp
theorem dictP (s : ByteArray) (hs : s.size ≤ 140737488351232) (count : Nat) (hc : count ≤ 2000) : ∀ (todo acc : List ByteArray) (bef : ByteArray) (i : Nat) (rest : List Int) (k : Nat), (bytesOf s).drop i = dictB todo (bytesOf bef) ++ rest → Small todo → bef.size ≤ 1000 → acc.length + todo.length = count → 2 * todo.length + 2 ≤ k →
    ∃ i' : Nat, dictcol_reader_dictionary.l0 k (count : Int) acc bef s (i : Int) false = some (acc ++ todo, s, (i' : Int), false) ∧ (bytesOf s).drop i' = rest
  | [], acc, bef, i, rest, k, h, _, _, hl, hk => by
    obtain ⟨k, rfl⟩ : ∃ j, k = j + 2 := ⟨k - 2, by omega⟩
    simp only [List.length_nil, Nat.add_zero] at hl
    refine ⟨i, ?_, by simpa [dictB] using h⟩
    rw [dictcol_reader_dictionary.l0, if_neg (by omega), dictcol_reader_dictionary.j1, if_neg (by simp), List.append_nil]
  | x :: todo, acc, bef, i, rest, k, h, hsm, hb, hl, hk => by
    obtain ⟨k, rfl⟩ : ∃ j, k = j + 2 := ⟨k - 2, by omega⟩
    have hx := hsm x (by simp)
    rw [List.length_cons] at hl hk
    have hcm := cmL_le (bytesOf bef) (bytesOf x)
    rw [bytes_len, bytes_len] at hcm
    have htk := cm_take (bytesOf bef) (bytesOf x)
    simp only [dictB, List.append_assoc] at h
    generalize hC : cmL (bytesOf bef) (bytesOf x) = c at *
    obtain ⟨n1, n2, n3⟩ := number_round (a := (bef.size : Int)) h (by omega) (by omega) hs
    obtain ⟨m1, m2, m3⟩ := number_round (a := wrap64 (1000 - (c : Int))) n2 (by omega) (by rw [w_in (by omega) (by omega)]; omega) hs
    generalize i + (G c).length + (G (x.size - c)).length = j at m1 m2 m3
    have hlen := congrArg List.length m2
    rw [List.length_drop, bytes_len, List.length_append, List.length_drop, bytes_len] at hlen
    have b1 := bytes_at s j (x.size - c) (by omega) hs
    have hx2 : bef.extract 0 c ++ s.extract j (j + (x.size - c)) = x := by
      apply bytesOf_inj
      rw [bytesOf_append, bytesOf_extract, bytesOf_extract, List.drop_zero, Nat.sub_zero, m2, show j + (x.size - c) - j = ((bytesOf x).drop c).length by rw [List.length_drop, bytes_len]; omega, List.take_left, htk, List.take_append_drop]
    obtain ⟨i', r1, r2⟩ := dictP s hs count hc todo (acc ++ [x]) x (j + (x.size - c)) rest k (by rw [← List.drop_drop, m2, show x.size - c = ((bytesOf x).drop c).length by rw [List.length_drop, bytes_len], List.drop_left]) (fun z hz => hsm z (by simp [hz])) hx (by simp; omega) (by omega)
    refine ⟨i', ?_, r2⟩
    rw [dictcol_reader_dictionary.l0, if_pos (by omega), dictcol_reader_dictionary.j1, if_pos (by simp), n1, Option.bind_some]
    dsimp only
    rw [m1, Option.bind_some]
    dsimp only
    rw [b1, Option.bind_some]
    dsimp only
    rw [if_pos (by omega), if_pos (by omega), Int.toNat_natCast, if_pos (by rw [ByteArray.size_extract, ByteArray.size_extract]; omega), if_pos (by omega), hx2, r1, List.append_assoc]
    rfl
theorem dictT (s : ByteArray) (hs : s.size ≤ 140737488351232) (count : Nat) (hc : count ≤ 2000) : ∀ (n : Nat) (acc : List ByteArray) (bef : ByteArray) (i : Nat) (f : Bool) (k : Nat), count - acc.length ≤ n → acc.length ≤ count → i ≤ s.size → bef.size ≤ 1000 → 2 * n + 2 ≤ k →
    ∃ (d : List ByteArray) (i' : Nat) (f' : Bool), dictcol_reader_dictionary.l0 k (count : Int) acc bef s (i : Int) f = some (d, s, (i' : Int), f') ∧ i' ≤ s.size ∧ d.length ≤ count := by
  intro n
  induction n with
  | zero =>
    intro acc bef i f k hn hac hi hb hk
    obtain ⟨k, rfl⟩ : ∃ j, k = j + 2 := ⟨k - 2, by omega⟩
    refine ⟨acc, i, f, ?_, hi, hac⟩
    rw [dictcol_reader_dictionary.l0, if_neg (by omega), dictcol_reader_dictionary.j1, if_neg (by simp)]
  | succ n ih =>
    intro acc bef i f k hn hac hi hb hk
    obtain ⟨k, rfl⟩ : ∃ j, k = j + 2 := ⟨k - 2, by omega⟩
    by_cases c1 : acc.length < count
    · cases f with
      | true =>
        refine ⟨acc, i, true, ?_, hi, hac⟩
        rw [dictcol_reader_dictionary.l0, if_pos (by omega), dictcol_reader_dictionary.j1, if_neg (by simp)]
      | false =>
        obtain ⟨n1, i1, f1, e1, g1, h1, h1'⟩ := number_any s i false (bef.size : Int) hi hs
        have hn1 : n1 ≤ bef.size := by
          cases f1 with
          | true => rw [h1' rfl]; omega
          | false => have := (h1 rfl).2.1; omega
        obtain ⟨n2, i2, f2, e2, g2, h2, h2'⟩ := number_any s i1 f1 (wrap64 (1000 - (n1 : Int))) g1 hs
        have hn2 : n2 ≤ 1000 - n1 := by
          cases f2 with
          | true => rw [h2' rfl]; omega
          | false => have := (h2 rfl).2.1; rw [w_in (by omega) (by omega)] at this; omega
        obtain ⟨r, i3, f3, e3, g3, h3, h3'⟩ := bytes_any s i2 n2 f2 g2 hs (by omega)
        obtain ⟨d, i', f', e, g⟩ := ih (acc ++ [bef.extract 0 n1 ++ r]) (bef.extract 0 n1 ++ r) i3 f3 k (by simp; omega) (by simp; omega) g3 (by rw [ByteArray.size_append, ByteArray.size_extract]; omega) (by omega)
        refine ⟨d, i', f', ?_, g⟩
        rw [dictcol_reader_dictionary.l0, if_pos (by omega), dictcol_reader_dictionary.j1, if_pos (by simp), e1, Option.bind_some]
        dsimp only
        rw [e2, Option.bind_some]
        dsimp only
        rw [e3, Option.bind_some]
        dsimp only
        rw [if_pos (by omega), if_pos (by omega), Int.toNat_natCast, if_pos (by rw [ByteArray.size_extract]; omega), if_pos (by omega), e]
    · refine ⟨acc, i, f, ?_, hi, hac⟩
      rw [dictcol_reader_dictionary.l0, if_neg (by omega), dictcol_reader_dictionary.j1, if_neg (by simp)]
end Go.Proofs.Ytfklecicddpcjaa.DK
