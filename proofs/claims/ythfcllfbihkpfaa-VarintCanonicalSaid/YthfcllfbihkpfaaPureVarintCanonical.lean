/- A number that can be read has just this encoding, and a list that can be decoded, too, for any string of up to 200 bytes. No further condition. -/
import Derived.Test.YthfcllfbihkpfaaVL
namespace Go.Proofs.Ythfcllfbihkpfaa.Pure
open Go.RowKit Go.Proofs.Ythfcllfbihkpfaa.P Go.Proofs.YthfcllfbihkpfaaW.PrintWords Go.Proofs.YthfcllfbihkpfaaW.PrintLast Go.Proofs.Ythfcllfbihkpfaa.VB
theorem head_is (s : ByteArray) {n : Nat} {rest : List Int} (h : bytesOf s = G n ++ rest) : s.extract 0 (G n).length = (⟨#[]⟩ : ByteArray) ++ strOfNums (G n) := by
  rw [empty_append]
  apply bytesOf_inj
  rw [bytesOf_extract, bytesOf_nums (G_byte n), h, List.drop_zero, Nat.sub_zero, List.take_left' rfl]
theorem VarintCanonical : lookoutlaw01_VarintCanonical.Pure := by
  intro s hs
  refine Ev.rounds ?_
  have e0 : (⟨#[]⟩ : ByteArray).size ≤ 4611686018427387904 := by show 0 ≤ _; omega
  have hj1 : Ev (fun k => lookoutlaw01_VarintCanonical.j1 k s) true := by
    refine Ev.step (fun k => by rw [lookoutlaw01_VarintCanonical.j1]) (Ev.bind (decode_ev s hs) ?_)
    obtain ⟨L, e, hr⟩ : ∃ L e, DE (bytesOf s) = (L, e) := ⟨_, _, rfl⟩
    rw [hr]
    dsimp only
    by_cases he : e = 0
    · subst he
      obtain ⟨h1, h2⟩ := DE_canon hr
      simp only [if_true]
      refine Ev.bind (encode_ev L (by omega)) ?_
      rw [h1]
      simp only [if_true]
      exact awake2_ev
    · simp only [if_neg he]
      exact awake2_ev
  have hj0 : Ev (fun k => lookoutlaw01_VarintCanonical.j0 k s) true := by
    obtain ⟨v, c, e, hr⟩ : ∃ v c e, RS (bytesOf s) = (v, c, e) := ⟨_, _, _, rfl⟩
    by_cases he : e = 0
    · subst he
      obtain ⟨rest, hl, hc, h1, h2⟩ := RS_canon (bytes_in s) hr
      have hlen := congrArg List.length hl
      rw [bytesOf_length, List.length_append] at hlen
      have hh := head_is s hl
      have ha : AS (⟨#[]⟩ : ByteArray) v = ((⟨#[]⟩ : ByteArray) ++ strOfNums (G (zig v)), 0) := if_pos ⟨h1, h2⟩
      refine Ev.step (fun k => by rw [lookoutlaw01_VarintCanonical.j0, readSigned_is, Option.bind_some, hr]) ?_
      dsimp only
      simp only [if_true]
      refine Ev.bind (appendSigned_ev _ v e0) ?_
      rw [ha]
      simp only [if_true, if_neg (show ¬ c > (s.size : Int) by omega), if_neg (show ¬ c < 0 by omega), if_pos (show 0 ≤ c by omega), if_pos (show c ≤ (s.size : Int) by omega), show c.toNat = (G (zig v)).length by omega, hh]
      exact hj1
    · refine Ev.step (fun k => by rw [lookoutlaw01_VarintCanonical.j0, readSigned_is, Option.bind_some, hr]) ?_
      dsimp only
      simp only [if_neg he]
      exact hj1
  by_cases h : (s.size : Int) > 200
  · simp only [lookoutlaw01_VarintCanonical.f, if_pos h]
    exact awake2_ev
  · obtain ⟨v, c, e, hr⟩ : ∃ v c e, RD (bytesOf s) = (v, c, e) := ⟨_, _, _, rfl⟩
    simp only [lookoutlaw01_VarintCanonical.f, if_neg h, read_is, Option.bind_some, hr]
    by_cases he : e = 0
    · subst he
      obtain ⟨rest, hl, hc, h1, h2⟩ := RD_canon (bytes_in s) hr
      have hlen := congrArg List.length hl
      rw [bytesOf_length, List.length_append] at hlen
      have hh := head_is s hl
      have ha : AP (⟨#[]⟩ : ByteArray) v = ((⟨#[]⟩ : ByteArray) ++ strOfNums (G v.toNat), 0) := if_neg (by omega)
      simp only [if_true]
      refine Ev.bind (append_ev _ v e0) ?_
      rw [ha]
      simp only [if_true, if_neg (show ¬ c > (s.size : Int) by omega), if_neg (show ¬ c < 0 by omega), if_pos (show 0 ≤ c by omega), if_pos (show c ≤ (s.size : Int) by omega), show c.toNat = (G v.toNat).length by omega, hh]
      exact hj0
    · simp only [if_neg he]
      exact hj0
end Go.Proofs.Ythfcllfbihkpfaa.Pure
