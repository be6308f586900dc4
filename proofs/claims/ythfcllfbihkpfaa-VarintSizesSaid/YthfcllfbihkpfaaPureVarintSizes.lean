/- A greater number does not have a shorter encoding; numbers below 128 have one byte, and signed ones from -64 to 63; none has more than 9. For any numbers. -/
import Derived.Test.YthfcllfbihkpfaaVA
namespace Go.Proofs.Ythfcllfbihkpfaa.Pure
open Go.RowKit Go.Proofs.Ythfcllfbihkpfaa.P Go.Proofs.YthfcllfbihkpfaaW.PrintWords Go.Proofs.YthfcllfbihkpfaaW.PrintLast Go.Proofs.Ythfcllfbihkpfaa.VB
theorem VarintSizes : lookoutlaw01_VarintSizes.Pure := by
  intro a b ha hb
  refine Ev.rounds ?_
  have hj : ∀ c, c = decide (a < 0 ∨ b < a ∨ b > 1152921504606846976) → Ev (fun k => lookoutlaw01_VarintSizes.j0 k a b c) true := by
    rintro c rfl
    by_cases h : a < 0 ∨ b < a ∨ b > 1152921504606846976
    · exact Ev.step (fun k => by rw [lookoutlaw01_VarintSizes.j0, if_pos (decide_eq_true h)]) awake2_ev
    · have e : wrap64 (-a) = -a := by unfold wrap64; omega
      refine Ev.step (f := fun k => (varint_Size.f k a).bind fun t275 => (varint_Size.f k b).bind fun t276 => (varint_AppendSigned.f k (⟨#[]⟩ : ByteArray) (-a)).bind fun bt277 => (if t275 ≥ 1 then (if t275 ≤ t276 then (if t276 ≤ 9 then (if ((t275 == 1) == (decide (a < 128))) = true then (if bt277.2 = 0 then (if (((bt277.1.size : Int) == 1) == (decide (a ≤ 64))) = true then ((lookoutlaw01_awake.f k).bind fun t279 => (some t279)) else (some false)) else (some false)) else (some false)) else (some false)) else (some false)) else (some false))) (fun k => by rw [lookoutlaw01_VarintSizes.j0, if_neg (by simpa using h), e]) ?_
      refine Ev.bind (size_ev a) (Ev.bind (size_ev b) (Ev.bind (appendSigned_ev _ (-a) (by show 0 ≤ _; omega)) ?_))
      have s1 : SZ a = (G a.toNat).length := if_neg (by omega)
      have s2 : SZ b = (G b.toNat).length := if_neg (by omega)
      have h1 := G_pos a.toNat
      have h2 := G_mono (m := a.toNat) (n := b.toNat) (by omega)
      have h3 := G_len9 (n := b.toNat) (by omega)
      have h4 := G_one a.toNat
      have h5 : AS (⟨#[]⟩ : ByteArray) (-a) = ((⟨#[]⟩ : ByteArray) ++ strOfNums (G (zig (-a))), 0) := if_pos (by omega)
      have h6 := G_one (zig (-a))
      have hz : zig (-a) < 128 ↔ a ≤ 64 := by unfold zig; split <;> omega
      rw [h5, s1, s2]
      have h7 : ((⟨#[]⟩ : ByteArray) ++ strOfNums (G (zig (-a)))).size = (G (zig (-a))).length := by rw [ByteArray.size_append, strOfNums_size]; show 0 + _ = _; omega
      simp only [h7]
      have t1 : (((G a.toNat).length : Int) == 1) = decide (a < 128) := by rw [Bool.eq_iff_iff, beq_iff_eq, decide_eq_true_eq]; omega
      have t2 : (((G (zig (-a))).length : Int) == 1) = decide (a ≤ 64) := by rw [Bool.eq_iff_iff, beq_iff_eq, decide_eq_true_eq]; omega
      simp only [t1, t2, beq_self_eq_true, if_true, if_pos (show ((G a.toNat).length : Int) ≥ 1 by omega), if_pos (show ((G a.toNat).length : Int) ≤ (G b.toNat).length by omega), if_pos (show ((G b.toNat).length : Int) ≤ 9 by omega)]
      exact awake2_ev
  simp only [lookoutlaw01_VarintSizes.f]
  by_cases h1 : a < 0
  · simp only [if_pos h1]; exact hj true (by simp [h1])
  · by_cases h2 : b < a
    · simp only [if_neg h1, if_pos h2]; exact hj true (by simp [h2])
    · simp only [if_neg h1, if_neg h2]; exact hj _ (by simp [h1, h2])
end Go.Proofs.Ythfcllfbihkpfaa.Pure
