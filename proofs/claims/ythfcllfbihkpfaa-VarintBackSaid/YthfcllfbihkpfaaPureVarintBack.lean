/- Reading what was appended yields the number and its length, whatever follows, for any number and strings of up to 50 bytes. No further condition. -/
import Derived.Test.YthfcllfbihkpfaaVL
namespace Go.Proofs.Ythfcllfbihkpfaa.Pure
open Go.RowKit Go.Proofs.Ythfcllfbihkpfaa.P Go.Proofs.Ythfcllfbihkpfaa.Hand Go.Proofs.YthfcllfbihkpfaaW.PrintWords Go.Proofs.YthfcllfbihkpfaaW.PrintLast Go.Proofs.Ythfcllfbihkpfaa.VB
theorem back_read (n : Nat) (s : ByteArray) (h : n ≤ 1152921504606846976) : varint_Read.f (strOfNums (G n) ++ s) = some ((n : Int), ((G n).length : Int), 0) := by
  rw [read_is, bytesOf_append, bytesOf_nums (G_byte n), RD_round n _ h]
theorem back_signed (n : Int) (s : ByteArray) (h1 : -1152921504606846976 ≤ n) (h2 : n ≤ 1152921504606846976) : varint_ReadSigned.f (strOfNums (G (zig n)) ++ s) = some (n, ((G (zig n)).length : Int), 0) := by
  rw [readSigned_is, bytesOf_append, bytesOf_nums (G_byte _), RS_round n _ h1 h2]
theorem back_tail (a b : ByteArray) : (a ++ b).extract a.size (a ++ b).size = b := by
  apply bytesOf_inj
  rw [bytesOf_from, bytesOf_append]
  exact List.drop_left' (by simp [bytesOf])
theorem back_prefix (a b : ByteArray) : strings_HasPrefix.f (a ++ b) a = some true := by
  have e : (a ++ b).extract 0 a.size = a := by
    apply bytesOf_inj
    rw [bytesOf_extract, bytesOf_append, List.drop_zero, Nat.sub_zero]
    exact List.take_left' (by simp [bytesOf])
  have hs : (a ++ b).size = a.size + b.size := ByteArray.size_append ..
  simp only [strings_HasPrefix.f, stringslite_HasPrefix.f, Int.toNat_natCast, e, if_pos (show ((a ++ b).size : Int) ≥ (a.size : Int) by omega), if_pos (show (0 : Int) ≤ (a.size : Int) by omega), Option.bind_some, beq_self_eq_true]
theorem VarintBack : lookoutlaw01_VarintBack.Pure := by
  intro n s hn hs
  refine Ev.rounds ?_
  have hj2 : (h0 : 0 ≤ n) → n ≤ 1152921504606846976 → s.size ≤ 50 → Ev (fun k => lookoutlaw01_VarintBack.j2 k n s (s ++ strOfNums (G n.toNat)) false) true := by
    intro h0 h1 hs'
    have hz : (strOfNums (G n.toNat)).size = (G n.toNat).length := strOfNums_size _
    have hl := G_len9 (n := n.toNat) (by omega)
    have hsz : (s ++ strOfNums (G n.toNat)).size = s.size + (G n.toNat).length := by rw [ByteArray.size_append, hz]
    have hr : varint_Read.f (strOfNums (G n.toNat) ++ s) = some (n, ((G n.toNat).length : Int), 0) := by rw [back_read n.toNat s (by omega), Int.toNat_of_nonneg h0]
    have hw : wrap64 (((s ++ strOfNums (G n.toNat)).size : Int) - (s.size : Int)) = ((G n.toNat).length : Int) := by rw [hsz]; unfold wrap64; omega
    have hZ : SZ n = ((G n.toNat).length : Int) := if_neg (by omega)
    refine Ev.step (f := fun k => (varint_Size.f k n).bind fun t306 => (if ((G n.toNat).length : Int) = t306 then ((lookoutlaw01_awake.f k).bind fun t307 => (some t307)) else (some false))) (fun k => ?_) (Ev.bind (size_ev n) ?_)
    · rw [lookoutlaw01_VarintBack.j2, if_neg (by decide), if_pos (by omega), if_pos (by omega), Int.toNat_natCast, back_tail, if_pos (by omega), hr]
      simp only [Option.bind_some, if_true, hw]
    · simp only [hZ, if_true]; exact awake2_ev
  have hj1 : -1152921504606846976 ≤ n → n ≤ 1152921504606846976 → s.size ≤ 50 → Ev (fun k => lookoutlaw01_VarintBack.j1 k n s false) true := by
    intro h0 h1 hs'
    by_cases h : n < 0
    · exact Ev.step (fun k => by rw [lookoutlaw01_VarintBack.j1, if_neg (by decide), if_pos h]) awake2_ev
    · refine Ev.step (f := fun k => (varint_Append.f k s n).bind fun bt300 => (if bt300.2 = 0 then ((strings_HasPrefix.f bt300.1 s).bind fun t302 => (lookoutlaw01_VarintBack.j2 k n s bt300.1 (!t302))) else (lookoutlaw01_VarintBack.j2 k n s bt300.1 true))) (fun k => by rw [lookoutlaw01_VarintBack.j1, if_neg (by decide), if_neg h]) ?_
      have ha : AP s n = (s ++ strOfNums (G n.toNat), 0) := if_neg (by omega)
      refine Ev.bind (append_ev s n (by omega)) ?_
      simp only [ha, if_true, back_prefix, Option.bind_some, Bool.not_true]
      exact hj2 (by omega) h1 hs'
  have hj : ∀ c, (c = false → -1152921504606846976 ≤ n ∧ n ≤ 1152921504606846976 ∧ s.size ≤ 50) → Ev (fun k => lookoutlaw01_VarintBack.j0 k n s c) true := by
    intro c hc
    cases c with
    | true => exact Ev.step (fun k => by rw [lookoutlaw01_VarintBack.j0, if_pos rfl]) awake2_ev
    | false =>
      obtain ⟨h1, h2, h3⟩ := hc rfl
      refine Ev.step (f := fun k => (varint_AppendSigned.f k (⟨#[]⟩ : ByteArray) n).bind fun bt294 => (if bt294.1.size + s.size ≤ 9223372036854775807 then ((varint_ReadSigned.f (bt294.1 ++ s)).bind fun bt296 => (if bt294.2 = 0 then (if bt296.2.2 = 0 then (if bt296.1 = n then (lookoutlaw01_VarintBack.j1 k n s (bt296.2.1 != (bt294.1.size : Int))) else (lookoutlaw01_VarintBack.j1 k n s true)) else (lookoutlaw01_VarintBack.j1 k n s true)) else (lookoutlaw01_VarintBack.j1 k n s true))) else (none))) (fun k => by rw [lookoutlaw01_VarintBack.j0, if_neg (by decide)]) ?_
      have ha : AS (⟨#[]⟩ : ByteArray) n = (strOfNums (G (zig n)), 0) := by rw [AS, if_pos ⟨h1, h2⟩, empty_append]
      have hz : (strOfNums (G (zig n))).size = (G (zig n)).length := strOfNums_size _
      have hl := G_len9 (n := zig n) (by have := zig_lt h1 h2; omega)
      refine Ev.bind (appendSigned_ev _ n (by show 0 ≤ _; omega)) ?_
      simp only [ha, back_signed n s h1 h2, Option.bind_some, if_true, hz, if_pos (show (G (zig n)).length + s.size ≤ 9223372036854775807 by omega), bne_self_eq_false]
      exact hj1 h1 h2 h3
  simp only [lookoutlaw01_VarintBack.f]
  by_cases h1 : n < -1152921504606846976
  · simp only [if_pos h1]; exact hj true (by simp)
  · by_cases h2 : n > 1152921504606846976
    · simp only [if_neg h1, if_pos h2]; exact hj true (by simp)
    · simp only [if_neg h1, if_neg h2]; exact hj _ (fun h => ⟨by omega, by omega, by have := of_decide_eq_false h; omega⟩)
end Go.Proofs.Ythfcllfbihkpfaa.Pure
