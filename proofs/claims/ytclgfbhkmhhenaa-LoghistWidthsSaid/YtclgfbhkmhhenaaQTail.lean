/- A region that draws its order: reads and quiet calls in whatever order, then a tail in its own order; also inside a round of a loop over a function. No condition beyond those in the statements. -/
import Derived.Test.YtclgfbhkmhhenaaSeq
import Derived.StillTail
import Derived.Deep.Quiet
namespace Go.Proofs.Ytclgfbhkmhhenaa.Seq
open Go Go.RowKit
section
variable {P : Program} {ops : Array Oper} {md : Region.Mode} {C : World → Prop}
/-- The head in whatever order, each operation quiet; L: what is then known. -/
def headQ (P : Program) (md : Region.Mode) (ops : Array Oper) (C : World → Prop) (n : Nat) (L : Array Bool → Act → Prop) : Nat → Array Bool → Act → Prop
  | 0, b, a => L b a
  | f + 1, b, a => Region.ready md ops b ≠ [] ∧ ∀ i ∈ Region.ready md ops b, i < n ∧ qOp P ops C i (headQ P md ops C n L f (b.setIfInBounds i true)) a
theorem any_of_headQ {n g : Nat} {L : Array Bool → Act → Prop} {Q : Exit → Act → World → Prop} (hL : ∀ b a w, C w → L b a → wpAny P md ops Q g b a w) :
    ∀ (f : Nat) (b : Array Bool) (a : Act) (w : World), C w → headQ P md ops C n L f b a → wpAny P md ops Q (f + g) b a w
  | 0, b, a, w, hw, h => by rw [Nat.zero_add]; exact hL _ _ _ hw h
  | f + 1, b, a, w, hw, h => by
    rw [show f + 1 + g = (f + g) + 1 by omega]
    exact ⟨fun h0 => absurd h0 h.1, fun i hi => wpOp_of_qOp hw (fun a' w' hw' h' => any_of_headQ hL f _ a' w' hw' h') (h.2 i hi).2⟩
theorem headQ_first {n i : Nat} {oi : Oper} {v : Value} {L : Array Bool → Act → Prop} (hi : ops[i]? = some oi) (hsel : ∀ (j : Nat) (o : Oper) cs b, ops[j]? = some o → o.op ≠ .select cs b)
    (hs : Region.sinkB md ops n = true) (hc : Region.chainB md ops n = true) (hn : n < ops.size) (hin : i < n) (hend : ∀ b a, L b a → ∀ j ∈ Region.ready md ops b, n ≤ j) :
    ∀ (f : Nat) (b : Array Bool) (a : Act), HeadInv md ops n b →
      (∀ j oj, ops[j]? = some oj → j ≠ i → b.getD j true = false → (∀ e ∈ oj.after, Region.binds md e = true → e.on ≠ i) → oi.apart ops oj = true) →
      i ∈ Region.ready md ops b → YieldsIn P ops C oi v a → headQ P md ops C n L f (b.setIfInBounds i true) (a.put oi.dst v) → headQ P md ops C n L (f + 1) b a
  | f, b, a, inv, hfree, hr, hy, H => by
    have hun := (mem_ready.1 hr).1
    have hlow : ∀ j ∈ Region.ready md ops b, j < n := fun j hj => (Nat.lt_or_ge j n).elim id (fun h => absurd hj (tail_waits hs hc hn inv _ i rfl hin hun j h))
    refine ⟨fun h => (by rw [h] at hr; cases hr), fun j hj => ⟨hlow j hj, ?_⟩⟩
    by_cases hji : j = i
    · subst hji; exact hy.qOp hi H
    · match f, H with
      | 0, H =>
        have := hend _ _ H j (ready_mono hj hji)
        have := hlow j hj
        omega
      | f + 1, H =>
        have h1 := (H.2 j (ready_mono hj hji)).2
        obtain ⟨hjun, oj, hoj, hall⟩ := mem_ready.1 hj
        have hnot : ∀ e ∈ oj.after, Region.binds md e = true → e.on ≠ i := fun e he hb heq => by
          have h2 := hall e he hb
          rw [heq, getD_both hun] at h2
          cases h2
        have h2 := qOp_put hoj (hfree j oj hoj hji hjun hnot) (fun cs b => hsel i oi cs b hi) (fun cs b => hsel j oj cs b hoj) hy h1
        refine qOp_mono (fun a' h3 => headQ_first hi hsel hs hc hn hin hend f (b.setIfInBounds j true) a' (inv.set hj (hlow j hj)) (fun k ok hk hki hunk hno => hfree k ok hk hki ?_ hno) (ready_mono hr (Ne.symm hji)) h3.1 ?_) h2
        · by_cases hjk : j = k
          · subst hjk; exact hjun
          · rw [getD_set_ne true hjk] at hunk; exact hunk
        · rw [Array.setIfInBounds_comm _ _ hji]
          exact h3.2
theorem headQ_lex {n g : Nat} {Lq : Act → Prop} (hsel : Region.noSelect ops = true) (hs : Region.sinkB md ops n = true) (hc : Region.chainB md ops n = true) (hn : n < ops.size) :
    ∀ (l : List Oper) (k : Nat) (b : Array Bool) (a : Act), (∀ j, j < l.length → l[j]? = ops[k + j]?) → k + l.length = n → HeadInv md ops n b →
    Region.lexHead md ops g l.length k b = true → wpQuiet P ops C Lq l a → headQ P md ops C n (fun b' a' => Region.seqB md ops g n b' = true ∧ Lq a') l.length b a
  | [], k, b, a, _, hk, _, hB, h => by
    have : k = n := by simpa using hk
    subst this
    exact ⟨by simpa [Region.lexHead] using hB, h⟩
  | o :: l, k, b, a, hl, hk, inv, hB, h => by
    have h0 : ops[k]? = some o := by simpa using (hl 0 (by simp)).symm
    simp only [List.length_cons, Region.lexHead, Bool.and_eq_true] at hB
    obtain ⟨⟨hr, hf⟩, hB'⟩ := hB
    have hkn : k < n := by simp only [List.length_cons] at hk; omega
    have hr' : k ∈ Region.ready md ops b := by simpa using hr
    have hst : qOp P ops C k (wpQuiet P ops C Lq l) a := by unfold qOp; simp only [h0]; exact h
    obtain ⟨v, hy, hK⟩ := yieldsIn_of_qOp h0 hst
    exact headQ_first h0 (Region.noSelect_spec hsel) hs hc hn hkn (fun b' a' hL => seqB_ready hL.1) l.length b a inv (Region.free_spec h0 hf) hr' hy
      (headQ_lex hsel hs hc hn l (k + 1) _ _ (fun j hj => by have := hl (j + 1) (by simp; omega); simpa [Nat.add_assoc, Nat.add_comm 1 j] using this) (by simp only [List.length_cons] at hk; omega) (inv.set hr' hkn) hB' hK)
theorem any_quiet_tail {Q : Exit → Act → World → Prop} {a : Act} {w : World} {ol : List Oper} (m : Nat) (hB : Region.lexTailB .any ol.toArray m = true) (hC : C w)
    (h : wpQuiet P ol.toArray C (fun a' => ∀ w', C w' → wpList P ol.toArray Q (ol.drop m) a' w') (ol.take m) a) : wpAny P .any ol.toArray Q ol.toArray.size (Array.replicate ol.toArray.size false) a w := by
  simp only [Region.lexTailB, Bool.and_eq_true, decide_eq_true_eq] at hB
  obtain ⟨⟨⟨⟨hsel, hn⟩, hs⟩, hc⟩, hlex⟩ := hB
  have hn' : m < ol.length := by simpa using hn
  have htl : (ol.take m).length = m := by simp; omega
  have hdl : (ol.drop m).length = ol.toArray.size - m := by simp
  have inv0 : HeadInv .any ol.toArray m (Array.replicate ol.toArray.size false) :=
    ⟨by simp, fun j oj _ hl => (by rw [getD_replicate_false] at hl; cases hl), fun t _ ht => getD_in (by simpa using ht) (getD_replicate_false _ _)⟩
  have H := headQ_lex (md := .any) (g := ol.toArray.size - m) hsel hs hc hn (ol.take m) 0 _ a (fun j hj => by
    have hj' : j < m := by rw [htl] at hj; exact hj
    simp [hj']) (by simpa using htl) inv0 (by rw [htl]; exact hlex) h
  have := any_of_headQ (Q := Q) (g := ol.toArray.size - m) (fun b a' w' hw' hL => by
    have := wpAny_of_seq (md := .any) (Q' := Q) (ol.drop m) m b a' w' (fun j => by simp [List.getElem?_drop]) (by rw [hdl]; exact hL.1) (hL.2 w' hw')
    rwa [hdl] at this) _ _ _ w hC H
  rw [htl, show m + (ol.toArray.size - m) = ol.toArray.size by omega] at this
  exact this
theorem round_quiet_tail {id l n : Nat} {Q : Exit → Act → World → Prop} {a : Act} {w : World} {ol : List Oper} (m : Nat) (hm : P.follows .mixedOrders = true) (hB : Region.lexTailB .any ol.toArray m = true) (hd : noDeferB ol = true) (hq : ¬ LetsOut Q)
    (h : wpQuiet P ol.toArray (fun w' => ∃ n, w' = w.drewN n) (fun a' => ∀ w', (∃ n, w' = w.drewN n) → wpList P ol.toArray Q (ol.drop m) a' w') (ol.take m) a) : (Code.region id ol.toArray true).wpIn (Fence.wide.inRound l) n P Q a w :=
  wpIn_region_any hm (anyIn_of_any (fun _ _ c hi => noDefer_spec hd hi c) hq _ _ _ _ (any_quiet_tail m hB ⟨1, rfl⟩ h))
end
end Go.Proofs.Ytclgfbhkmhhenaa.Seq
