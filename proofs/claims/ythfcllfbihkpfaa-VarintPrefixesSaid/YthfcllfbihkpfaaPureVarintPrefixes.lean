/- Decoding an encoded list yields the list, and what is cut off is ErrShort, for lists of up to 50 numbers. No further condition. -/
import Derived.Test.YthfcllfbihkpfaaVL
namespace Go.Proofs.Ythfcllfbihkpfaa.Pure
open Go.RowKit Go.Proofs.Ythfcllfbihkpfaa.P Go.Proofs.Ythfcllfbihkpfaa.Hand Go.Proofs.YthfcllfbihkpfaaW.PrintWords Go.Proofs.YthfcllfbihkpfaaW.PrintLast Go.Proofs.Ythfcllfbihkpfaa.VB
theorem DL_cut : ∀ (xs : List Int) (j : Nat) (acc : List Int), (∀ n ∈ xs, inR n) → j < (ZL xs).length → DL xs.length ((ZL xs).take j) acc = ([], 11) := by
  intro xs
  induction xs with
  | nil => intro j acc _ h; simp [ZL_nil] at h
  | cons x t ih =>
    intro j acc h hj
    have hx := h x (by simp)
    rw [ZL_cons] at hj ⊢
    rw [List.length_append] at hj
    rw [List.length_cons]
    by_cases hlt : j < (G (zig x)).length
    · rw [List.take_append_of_le_length (by omega)]
      unfold DL
      rw [RS_cut x j hx.1 hx.2 hlt]
      rfl
    · rw [List.take_append, List.take_of_length_le (by omega)]
      unfold DL
      rw [RS_round x _ hx.1 hx.2]
      simp only [if_true, Int.toNat_natCast]
      rw [List.drop_left' rfl]
      exact ih _ _ (fun n hn => h n (by simp [hn])) (by omega)
theorem DE_cut {xs : List Int} (hl : xs.length ≤ 20000) (h : ∀ n ∈ xs, inR n) (j : Nat) (hj : j < (G xs.length ++ ZL xs).length) : DE ((G xs.length ++ ZL xs).take j) = ([], 11) := by
  rw [List.length_append] at hj
  by_cases hlt : j < (G xs.length).length
  · rw [List.take_append_of_le_length (by omega)]
    unfold DE
    rw [RD_cut xs.length j (by omega) hlt]
    rfl
  · rw [List.take_append, List.take_of_length_le (by omega)]
    unfold DE
    rw [RD_round xs.length _ (by omega)]
    simp only [if_true, Int.toNat_natCast]
    rw [if_neg (by omega), List.drop_left' rfl]
    exact DL_cut xs _ [] h (by omega)
theorem equal_l0 (l : List Int) (hl : l.length ≤ 140737488351232) : ∀ (d i : Nat), i + d = l.length → Ev (fun k => slices_Equal_int_int.l0 k l l l.length i) true := by
  intro d
  induction d with
  | zero => intro i h; exact Ev.step (fun k => by rw [slices_Equal_int_int.l0, if_neg (by omega)]) (Ev.now _)
  | succ d ih =>
    intro i h
    have hw : wrap64 ((i : Int) + 1) = ((i + 1 : Nat) : Int) := by unfold wrap64; omega
    exact Ev.step (fun k => by rw [slices_Equal_int_int.l0, if_pos (by omega), if_pos (by omega), if_pos (by omega), if_pos (by omega), if_pos rfl, hw]) (ih (i + 1) (by omega))
theorem equal_ev (l : List Int) (hl : l.length ≤ 140737488351232) : Ev (fun k => slices_Equal_int_int.f k l l) true := by
  simp only [slices_Equal_int_int.f, if_true]
  exact equal_l0 l hl l.length 0 (by omega)
theorem ZL_len : ∀ (l : List Int), (∀ n ∈ l, inR n) → (ZL l).length ≤ 9 * l.length := by
  intro l
  induction l with
  | nil => intro _; simp [ZL_nil]
  | cons x t ih =>
    intro h
    have hx := h x (by simp)
    have := G_len9 (n := zig x) (by have := zig_lt hx.1 hx.2; omega)
    have := ih (fun n hn => h n (by simp [hn]))
    rw [ZL_cons, List.length_append, List.length_cons]
    omega
theorem VarintPrefixes : lookoutlaw01_VarintPrefixes.Pure := by
  intro l a hl0 hl hw ha
  refine Ev.rounds ?_
  by_cases h : (l.length : Int) > 50
  · simp only [lookoutlaw01_VarintPrefixes.f, if_pos h]
    exact awake2_ev
  · simp only [lookoutlaw01_VarintPrefixes.f, if_neg h]
    refine Ev.bind (encode_ev l (by omega)) ?_
    unfold EN
    rw [if_neg (show ¬ 20000 < l.length by omega)]
    by_cases hin : ∀ n ∈ l, inR n
    · rw [if_pos hin]
      obtain ⟨t, ht⟩ : ∃ t, t = strOfNums (G l.length ++ ZL l) := ⟨_, rfl⟩
      have hby : ∀ b ∈ G l.length ++ ZL l, 0 ≤ b ∧ b ≤ 255 := fun b hb => (List.mem_append.1 hb).elim (G_byte _ b) (ZL_byte l b)
      have hbt : bytesOf t = G l.length ++ ZL l := by rw [ht, bytesOf_nums hby]
      have h9 := ZL_len l hin
      have h8 := G_len9 (n := l.length) (by omega)
      have h7 := G_pos l.length
      have hsz : t.size = (G l.length).length + (ZL l).length := by rw [← bytesOf_length, hbt, List.length_append]
      have hne : ¬ t.toList = [] := by
        intro e
        have h3 : (bytesOf t).length = 0 := by
          unfold bytesOf
          rw [← ByteArray.toList_eq, e]
          rfl
        rw [bytesOf_length] at h3
        omega
      have ha2 : 0 ≤ a ∧ a ≤ 65535 := by simp [Lit.wf, IntKind.min, IntKind.max, IntKind.bits, IntKind.signed] at ha; omega
      have hwa : wrap64 a = a := by unfold wrap64; omega
      rw [← ht]
      simp only [if_true, if_neg hne]
      refine Ev.bind (decode_ev t (by omega)) ?_
      rw [hbt, DE_round (by omega) hin]
      have hm : Int.tmod a (t.size : Int) = a % (t.size : Int) := Int.tmod_eq_emod_of_nonneg ha2.1
      have hm1 : 0 ≤ a % (t.size : Int) := Int.emod_nonneg _ (by omega)
      have hm2 : a % (t.size : Int) < (t.size : Int) := Int.emod_lt_of_pos _ (by omega)
      simp only [hwa, hm, if_neg (show ¬ (t.size : Int) = 0 by omega), if_pos hm1, if_pos (show a % (t.size : Int) ≤ (t.size : Int) by omega)]
      refine Ev.bind (decode_ev (t.extract 0 (a % (t.size : Int)).toNat) (by rw [← bytesOf_length, bytesOf_extract, List.length_take, List.length_drop, bytesOf_length]; omega)) ?_
      rw [bytesOf_extract, hbt, List.drop_zero, Nat.sub_zero, DE_cut (by omega) hin _ (by rw [List.length_append]; omega)]
      simp only [if_true]
      refine Ev.bind (equal_ev l (by omega)) ?_
      simp only [if_true, List.length_nil, Int.natCast_zero]
      exact awake2_ev
    · rw [if_neg hin]
      have hany : l.any slices_ContainsFunc_out.pred = true := by
        rw [List.any_eq_true]
        simp only [Classical.not_forall] at hin
        obtain ⟨n, hn, hr⟩ := hin
        exact ⟨n, hn, by unfold slices_ContainsFunc_out.pred; rw [decide_eq_true_eq]; unfold inR at hr; omega⟩
      simp only [if_neg (show ¬ (2 : Int) = 0 by omega), slices_ContainsFunc_out.f, Option.bind_some, hany, if_true]
      simp only [show (⟨#[]⟩ : ByteArray).toList = [] by rw [ByteArray.toList_eq], if_true]
      exact awake2_ev
end Go.Proofs.Ythfcllfbihkpfaa.Pure
