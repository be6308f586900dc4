/- Plain facts on encoded lists of numbers: what Encode of the postings chapter and of its reference answer; round trips and canonical forms. No condition beyond those in the statements. -/
import Derived.Test.YtdmdhpnlalekfaaK2
namespace Go.Proofs.Ytdmdhpnlalekfaa.VB
open Go.RowKit Go.Proofs.Ytdmdhpnlalekfaa.P Go.Proofs.Ytdmdhpnlalekfaa.A Go.Proofs.Ytdmdhpnlalekfaa.Hand Go.Proofs.YtdmdhpnlalekfaaW.PrintWords Go.Proofs.YtdmdhpnlalekfaaW.PrintLast Go.Proofs.YtdmdhpnlalekfaaW.PrintMore
/-- The gaps of a list, as bytes. -/
def PE : Int → List Int → List Int
  | _, [] => []
  | q, x :: r => G (x - q - 1).toNat ++ PE x r
def VF (q : Int) (l : List Int) : Prop := ckFrom q l = 0
theorem VF_cons {q x : Int} {r : List Int} (h : VF q (x :: r)) : 0 ≤ x ∧ x ≤ 1152921504606846976 ∧ q < x ∧ VF x r := by
  unfold VF at h ⊢
  rw [ckFrom] at h
  by_cases h1 : x < 0 ∨ 1152921504606846976 < x
  · rw [if_pos h1] at h; omega
  · rw [if_neg h1] at h
    by_cases h2 : x ≤ q
    · rw [if_pos h2] at h; omega
    · rw [if_neg h2] at h; exact ⟨by omega, by omega, by omega, h⟩
theorem VF_mk {q x : Int} {r : List Int} (h0 : 0 ≤ x) (h1 : x ≤ 1152921504606846976) (h2 : q < x) (h : VF x r) : VF q (x :: r) := by
  unfold VF at h ⊢
  rw [ckFrom, if_neg (by omega), if_neg (by omega)]
  exact h
theorem PE_byte : ∀ (l : List Int) (q : Int), ∀ b ∈ PE q l, 0 ≤ b ∧ b ≤ 255
  | [], _, b, h => by simp [PE] at h
  | x :: r, q, b, h => by
    rw [PE, List.mem_append] at h
    rcases h with h | h
    · exact G_byte _ b h
    · exact PE_byte r x b h
theorem PE_len : ∀ (l : List Int) (q : Int), -1 ≤ q → VF q l → l.length ≤ (PE q l).length ∧ (PE q l).length ≤ 9 * l.length
  | [], _, _, _ => by simp [PE]
  | x :: r, q, hq, h => by
    obtain ⟨h0, h1, h2, h3⟩ := VF_cons h
    have := PE_len r x (by omega) h3
    have h4 := G_pos (x - q - 1).toNat
    have h5 := G_len9 (n := (x - q - 1).toNat) (by omega)
    rw [PE, List.length_append, List.length_cons]
    omega
theorem AP_gap {x q : Int} (s : ByteArray) (h0 : 0 ≤ x) (h1 : x ≤ 1152921504606846976) (h2 : q < x) (hq : -1 ≤ q) : AP s (x - q - 1) = (s ++ strOfNums (G (x - q - 1).toNat), 0) := if_neg (by omega)
theorem encL_ev : ∀ (l : List Int) (q : Int) (acc : List Int), -1 ≤ q → VF q l → acc.length + 9 * l.length ≤ 100000000 → Ev (fun k => encL k l q (strOfNums acc)) (strOfNums (acc ++ PE q l))
  | [], q, acc, _, _, _ => by
    rw [PE, List.append_nil]
    exact ⟨0, fun k _ => rfl⟩
  | x :: r, q, acc, hq, h, ha => by
    rw [List.length_cons] at ha
    obtain ⟨h0, h1, h2, h3⟩ := VF_cons h
    have e1 : wrap64 (wrap64 (x - q) - 1) = x - q - 1 := by unfold wrap64; omega
    have h5 := G_len9 (n := (x - q - 1).toNat) (by omega)
    refine Ev.congr (fun k => by rw [encL, e1]) (Ev.bind (append_ev (⟨#[]⟩ : ByteArray) (x - q - 1) (by show 0 ≤ _; omega)) ?_)
    simp only [AP_gap _ h0 h1 h2 hq, empty_append, strOfNums_size, if_pos (show acc.length + (G (x - q - 1).toNat).length ≤ 140737488355328 by omega), ← strOfNums_append]
    have := encL_ev r x (acc ++ G (x - q - 1).toNat) (by omega) h3 (by rw [List.length_append]; omega)
    rw [PE, ← List.append_assoc]
    exact this
def EN8 (l : List Int) : ByteArray × Int := if CK l = 0 then (strOfNums (G l.length ++ PE (-1) l), 0) else (⟨#[]⟩, 1)
theorem encode8_ev (l : List Int) (hl : l.length ≤ 1000000) : Ev (fun k => postings_Encode.f k l) (EN8 l) := by
  simp only [postings_Encode.f]
  refine Ev.bind (valid1_ev l (by omega)) ?_
  unfold EN8
  by_cases h : CK l = 0
  · simp only [h, decide_true, if_true]
    have ha : AP (⟨#[]⟩ : ByteArray) (l.length : Int) = (strOfNums (G l.length), 0) := by rw [AP, if_neg (by omega), empty_append, Int.toNat_natCast]
    have h9 := G_len9 (n := l.length) (by omega)
    refine Ev.bind (append_ev (⟨#[]⟩ : ByteArray) (l.length : Int) (by show 0 ≤ _; omega)) ?_
    simp only [ha, strOfNums_size, if_pos (show (G l.length).length ≤ 140737488355328 by omega)]
    exact Ev.bind (encL_ev l (-1) (G l.length) (by omega) h (by omega)) (Ev.now _)
  · simp only [h, decide_false, if_neg (show ¬ (false = true) by decide), if_false]
    exact Ev.now _
theorem VF_at (l : List Int) (h : CK l = 0) : ∀ i : Nat, i ≤ l.length → VF (prevOf l i) (l.drop i) ∧ -1 ≤ prevOf l i := by
  intro i
  induction i with
  | zero => intro _; exact ⟨h, by show (-1 : Int) ≤ -1; omega⟩
  | succ i ih =>
    intro hi
    obtain ⟨h1, h2⟩ := ih (by omega)
    rw [drop_rd' (by omega : i < l.length)] at h1
    obtain ⟨a, b, c, d⟩ := VF_cons h1
    rw [prevOf_succ]
    exact ⟨d, by omega⟩
theorem encodeRef8_l0 (l : List Int) (hl : l.length ≤ 1000000) (h : CK l = 0) : ∀ (d i : Nat) (acc : List Int), i + d = l.length → acc.length + 9 * d ≤ 100000000 →
    Ev (fun k => lookoutref08_Encode.l0 k l (strOfNums acc) (i : Int)) (strOfNums (acc ++ PE (prevOf l i) (l.drop i)), 0) := by
  intro d
  induction d with
  | zero =>
    intro i acc hi ha
    rw [List.drop_eq_nil_of_le (by omega), PE, List.append_nil]
    exact Ev.step (fun k => by rw [lookoutref08_Encode.l0, if_neg (by omega)]) (Ev.now _)
  | succ d ih =>
    intro i acc hi ha
    obtain ⟨h1, h2⟩ := VF_at l h i (by omega)
    rw [drop_rd' (by omega : i < l.length)] at h1 ⊢
    obtain ⟨a, b, c, e⟩ := VF_cons h1
    have hw : wrap64 ((i : Int) + 1) = ((i + 1 : Nat) : Int) := by unfold wrap64; omega
    have h5 := G_len9 (n := (rd l i - prevOf l i - 1).toNat) (by omega)
    have hs : (strOfNums acc).size ≤ 4611686018427387904 := by rw [strOfNums_size]; omega
    have hA := appendRef_ev (strOfNums acc) (rd l i - prevOf l i - 1) hs
    rw [AP_gap _ a b c h2, ← strOfNums_append] at hA
    have hn := ih (i + 1) (acc ++ G (rd l i - prevOf l i - 1).toNat) (by omega) (by rw [List.length_append]; omega)
    rw [prevOf_succ] at hn
    rw [PE, ← List.append_assoc]
    by_cases h0 : i = 0
    · subst h0
      have hp : prevOf l 0 = -1 := rfl
      have e0 : rd l ((0 : Nat) : Int) - prevOf l 0 - 1 = rd l ((0 : Nat) : Int) := by rw [hp]; omega
      rw [e0] at hA
      rw [e0] at hn ⊢
      refine Ev.step (fun k => by rw [lookoutref08_Encode.l0, if_pos (by omega), if_pos (by omega), if_neg (by omega), hw]) (Ev.bind hA ?_)
      exact hn
    · have hv : wrap64 ((i : Int) - 1) = (i : Int) - 1 := by unfold wrap64; omega
      have hp : prevOf l i = rd l ((i : Int) - 1) := if_neg h0
      have e1 : wrap64 (wrap64 (rd l i - rd l ((i : Int) - 1)) - 1) = rd l i - prevOf l i - 1 := by
        rw [hp] at h2 c ⊢
        unfold wrap64
        omega
      refine Ev.step (fun k => by rw [lookoutref08_Encode.l0, if_pos (by omega), if_pos (by omega), if_pos (by omega), hv, if_pos (by omega), if_pos (by omega), e1, hw]) (Ev.bind hA ?_)
      exact hn
theorem encodeRef8_ev (l : List Int) (hl : l.length ≤ 1000000) : Ev (fun k => lookoutref08_Encode.f k l) (EN8 l) := by
  simp only [lookoutref08_Encode.f]
  refine Ev.bind (checkRef_ev l (by omega)) ?_
  unfold EN8
  by_cases h : CK l = 0
  · simp only [h, if_true]
    have ha : AP (⟨#[]⟩ : ByteArray) (l.length : Int) = (strOfNums (G l.length), 0) := by rw [AP, if_neg (by omega), empty_append, Int.toNat_natCast]
    have h9 := G_len9 (n := l.length) (by omega)
    refine Ev.bind (appendRef_ev (⟨#[]⟩ : ByteArray) (l.length : Int) (by show 0 ≤ _; omega)) ?_
    simp only [ha]
    exact encodeRef8_l0 l hl h l.length 0 (G l.length) (by omega) (by omega)
  · simp only [h, if_false]
    exact Ev.now _
/-! ## Round trips and canonical forms -/
theorem DP_round : ∀ (l : List Int) (q : Int) (acc : List Int), -1 ≤ q → VF q l → DP l.length q (PE q l) acc = (acc ++ l, 0)
  | [], q, acc, _, _ => by rw [PE, List.length_nil, DP, if_pos rfl, List.append_nil]
  | x :: r, q, acc, hq, h => by
    obtain ⟨h0, h1, h2, h3⟩ := VF_cons h
    have hr := RD_round (x - q - 1).toNat (PE x r) (by omega)
    rw [PE, List.length_cons, DP, hr]
    simp only [if_true]
    rw [show q + 1 + (((x - q - 1).toNat : Nat) : Int) = x by omega, if_neg (by omega), Int.toNat_natCast, List.drop_left' rfl, DP_round r x _ (by omega) h3, List.append_assoc]
    rfl
theorem PD_round {l : List Int} (h : CK l = 0) (hl : l.length ≤ 1000000) : PD (G l.length ++ PE (-1) l) = (l, 0) := by
  have hr := RD_round l.length (PE (-1) l) (by omega)
  have hp := PE_len l (-1) (by omega) h
  unfold PD
  rw [hr]
  simp only [if_true]
  rw [List.length_append, if_neg (by omega), Int.toNat_natCast, Int.toNat_natCast, List.drop_left' rfl, DP_round l (-1) [] (by omega) h, List.nil_append]
theorem DP_canon : ∀ (c : Nat) (q : Int) (bs acc L : List Int), (∀ b ∈ bs, 0 ≤ b ∧ b ≤ 255) → -1 ≤ q → DP c q bs acc = (L, 0) → ∃ xs, L = acc ++ xs ∧ xs.length = c ∧ bs = PE q xs ∧ VF q xs
  | 0, q, bs, acc, L, hb, hq, h => by
    rw [DP] at h
    split at h
    · rename_i hn
      cases h
      exact ⟨[], by simp, rfl, by rw [hn]; rfl, rfl⟩
    · cases h
  | c + 1, q, bs, acc, L, hb, hq, h => by
    rw [DP] at h
    by_cases h0 : (RD bs).2.2 = 0
    · rw [if_pos h0] at h
      by_cases hx : 1152921504606846976 < q + 1 + (RD bs).1
      · rw [if_pos hx] at h; cases h
      · rw [if_neg hx] at h
        obtain ⟨rest, hl, hc, hv0, hv1⟩ := RD_canon (v := (RD bs).1) (c := (RD bs).2.1) hb (by rw [← h0])
        have hdr : bs.drop (RD bs).2.1.toNat = rest := by
          rw [hc, Int.toNat_natCast]
          exact (congrArg (List.drop (G (RD bs).1.toNat).length) hl).trans (List.drop_left' rfl)
        rw [hdr] at h
        obtain ⟨xs, e1, e2, e3, e4⟩ := DP_canon c _ rest _ L (fun b hb' => hb b (by rw [hl]; simp [hb'])) (by omega) h
        refine ⟨(q + 1 + (RD bs).1) :: xs, by rw [e1, List.append_assoc]; rfl, by rw [List.length_cons, e2], ?_, VF_mk (by omega) (by omega) (by omega) e4⟩
        rw [PE, ← e3, show q + 1 + (RD bs).1 - q - 1 = (RD bs).1 by omega]
        exact hl
    · rw [if_neg h0] at h; cases h
theorem PD_canon {bs L : List Int} (hb : ∀ b ∈ bs, 0 ≤ b ∧ b ≤ 255) (h : PD bs = (L, 0)) : bs = G L.length ++ PE (-1) L ∧ CK L = 0 := by
  unfold PD at h
  by_cases h0 : (RD bs).2.2 = 0
  · rw [if_pos h0] at h
    by_cases hx : (bs.length : Int) - (RD bs).2.1 < (RD bs).1
    · rw [if_pos hx] at h; cases h
    · rw [if_neg hx] at h
      obtain ⟨rest, hl, hc, hv0, hv1⟩ := RD_canon (v := (RD bs).1) (c := (RD bs).2.1) hb (by rw [← h0])
      have hdr : bs.drop (RD bs).2.1.toNat = rest := by
        rw [hc, Int.toNat_natCast]
        exact (congrArg (List.drop (G (RD bs).1.toNat).length) hl).trans (List.drop_left' rfl)
      rw [hdr] at h
      obtain ⟨xs, e1, e2, e3, e4⟩ := DP_canon _ _ rest _ L (fun b hb' => hb b (by rw [hl]; simp [hb'])) (by omega) h
      rw [List.nil_append] at e1
      subst e1
      refine ⟨?_, e4⟩
      rw [e2, ← e3]
      exact hl
  · rw [if_neg h0] at h; cases h
theorem DP_err : ∀ (c : Nat) (q : Int) (bs acc : List Int), (DP c q bs acc).2 ≠ 0 → DP c q bs acc = ([], 12)
  | 0, q, bs, acc, h => by
    rw [DP] at h ⊢
    split
    · rename_i hn; rw [if_pos hn] at h; exact absurd rfl h
    · rfl
  | c + 1, q, bs, acc, h => by
    rw [DP] at h ⊢
    split
    · rename_i h0
      rw [if_pos h0] at h
      split
      · rfl
      · rename_i hx
        rw [if_neg hx] at h
        exact DP_err c _ _ _ h
    · rfl
theorem PD_err {bs : List Int} (h : (PD bs).2 ≠ 0) : PD bs = ([], 12) := by
  unfold PD at h ⊢
  split
  · rename_i h0
    rw [if_pos h0] at h
    split
    · rfl
    · rename_i hx
      rw [if_neg hx] at h
      exact DP_err _ _ _ _ h
  · rfl
end Go.Proofs.Ytdmdhpnlalekfaa.VB
