/- Zones of lists of elements: plain facts. No condition beyond those in the statements. -/
import Derived.Test.YtdokabaeddaipaaK3
import Derived.Test.YtdokabaeddaipaaPx11
namespace Go.Proofs.Ytdokabaeddaipaa.K
open Go.RowKit Go.Proofs.YtdokabaeddaipaaW.PrintWords Go.Proofs.YtdokabaeddaipaaW.PrintLast Go.Proofs.YtdokabaeddaipaaW.PrintMore Go.Proofs.Ytdokabaeddaipaa.Hand Go.Proofs.Ytdokabaeddaipaa.A Go.Proofs.Ytdokabaeddaipaa.P
set_option linter.unusedVariables false
set_option linter.unusedSimpArgs false
def ofT (z : T13) (l : List S40) : T13 := l.foldl (fun z x => addT z x.f0 x.f1 x.f2) z
theorem of_is (l : List S40) (hlen : l.length ≤ 9223372036854775807) (hl : ∀ x ∈ l, K.fits x.f2) (k : Nat) (hk : l.length < k) : lookoutlaw16_of.f k l = some (ofT zeroT l) := by
  have key : ∀ (d k i : Nat) (z : T13), i + d = l.length → d < k → lookoutlaw16_of.l0 k l (l.length : Int) (i : Int) z.1 z.2.1 z.2.2.1 z.2.2.2.1 z.2.2.2.2.1 z.2.2.2.2.2.1 z.2.2.2.2.2.2.1 z.2.2.2.2.2.2.2.1 z.2.2.2.2.2.2.2.2.1 z.2.2.2.2.2.2.2.2.2.1 z.2.2.2.2.2.2.2.2.2.2.1 z.2.2.2.2.2.2.2.2.2.2.2.1 z.2.2.2.2.2.2.2.2.2.2.2.2 = some (ofT z (l.drop i)) := by
    intro d
    induction d with
    | zero =>
      intro k i z hi hk
      obtain ⟨k, rfl⟩ : ∃ m, k = m + 1 := ⟨k - 1, by omega⟩
      rw [lookoutlaw16_of.l0, if_neg (by omega), List.drop_eq_nil_of_le (by omega)]
      rfl
    | succ d ih =>
      intro k i z hi hk
      obtain ⟨k, rfl⟩ : ∃ m, k = m + 1 := ⟨k - 1, by omega⟩
      have hlt : i < l.length := by omega
      rw [lookoutlaw16_of.l0, if_pos (by omega), if_pos (by omega), if_pos (by omega), rdT_nat hlt, add_is z _ _ _ (hl _ (List.getElem_mem _)), List.drop_eq_getElem_cons hlt]
      simp only [Option.bind_some]
      rw [show wrap64 ((i : Int) + 1) = ((i + 1 : Nat) : Int) by unfold wrap64; omega, ih k (i + 1) _ (by omega) (by omega)]
      rfl
  exact key l.length k 0 zeroT (by omega) hk
theorem zn_of : ∀ (l : List S40) {z : T13} {n : Int}, Zn z n → 0 ≤ n → n + l.length ≤ 1000 → (∀ x ∈ l, elB x = true) →
    Zn (ofT z l) (n + l.length) ∧ (∀ x ∈ l, Cov (ofT z l) x.f0 x.f1 x.f2) ∧ ∀ t v q, Cov z t v q → Cov (ofT z l) t v q
  | [], z, n, hz, h0, hn, hl => ⟨(by show Zn z _; simpa using hz), (fun x hx => by cases hx), fun t v q h => h⟩
  | x :: l, z, n, hz, h0, hn, hl => by
    simp only [List.length_cons] at hn
    obtain ⟨h1, h2, h3, h4⟩ := el_parts (hl x (by simp))
    obtain ⟨g1, g2, g3⟩ := zn_add hz h0 (by omega) h3 h4 x.f2
    obtain ⟨f1, f2, f3⟩ := zn_of l g1 (by omega) (by omega) (fun y hy => hl y (by simp [hy]))
    refine ⟨?_, fun y hy => ?_, fun t v q hc => f3 t v q (g3 t v q hc)⟩
    · show Zn (ofT (addT z x.f0 x.f1 x.f2) l) (n + (l.length + 1 : Nat))
      rw [show n + ((l.length + 1 : Nat) : Int) = n + 1 + l.length by omega]
      exact f1
    · rcases List.mem_cons.1 hy with rfl | hy
      · exact f3 _ _ _ g2
      · exact f2 y hy
end Go.Proofs.Ytdokabaeddaipaa.K
