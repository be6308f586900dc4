/- Plain facts on sketches: what Encode and Decode of the reference answer, and that Decode and the reference's Decode answer the same. No condition beyond those in the statements. -/
import Derived.Test.YthblifjeecdhcaaK3
import Derived.Test.YthblifjeecdhcaaKV
import Derived.Test.YthblifjeecdhcaaEx12
import Derived.Test.YthblifjeecdhcaaEx15
namespace Go.Proofs.Ythblifjeecdhcaa.KB
open Go.RowKit Go.Proofs.Ythblifjeecdhcaa.VB Go.Proofs.Ythblifjeecdhcaa.E Go.Proofs.Ythblifjeecdhcaa.P Go.Proofs.Ythblifjeecdhcaa.A Go.Proofs.Ythblifjeecdhcaa.B Go.Proofs.Ythblifjeecdhcaa.Hand Go.Proofs.YthblifjeecdhcaaW.PrintWords Go.Proofs.YthblifjeecdhcaaW.PrintLast Go.Proofs.YthblifjeecdhcaaW.PrintMore
set_option linter.unusedVariables false
set_option linter.unusedSimpArgs false
theorem ns_all {K C : Int} {H : List Int} (h : OKK K C H) : ∀ n ∈ NS K C H, 0 ≤ n ∧ n ≤ 1152921504606846976 := by
  intro n hn
  have k1 := h.1; have k2 := h.2.1; have c1 := h.2.2.1; have c2 := h.2.2.2.1; have l1 := h.2.2.2.2.1
  unfold NS at hn
  rcases List.mem_cons.1 hn with rfl | hn
  · omega
  rcases List.mem_cons.1 hn with rfl | hn
  · omega
  rcases List.mem_cons.1 hn with rfl | hn
  · omega
  have := UP_diffs H 0 (by omega) h.up n hn
  omega
/-! ## Encode -/
theorem encR_l1 (L : List Int) (hL : ∀ n ∈ L, 0 ≤ n ∧ n ≤ 1152921504606846976) (hl : L.length ≤ 1000000) : ∀ (d i : Nat) (s : ByteArray), i + d = L.length → s.size + 9 * d ≤ 1000000000 → Ev (fun k => lookoutref30_Encode.l1 k L s (i : Int)) (s ++ strOfNums (GL (L.drop i)), 0) := by
  intro d
  induction d with
  | zero =>
    intro i s h hs
    rw [List.drop_eq_nil_of_le (by omega), show strOfNums (GL []) = ⟨#[]⟩ from rfl, show s ++ (⟨#[]⟩ : ByteArray) = s from bytesOf_inj (by rw [bytesOf_append, bytesOf_empty, List.append_nil])]
    exact Ev.step (fun k => by rw [lookoutref30_Encode.l1, if_neg (by omega)]) (Ev.now _)
  | succ d ih =>
    intro i s h hs
    have hi : i < L.length := by omega
    have hm := hL L[i] (List.getElem_mem hi)
    have ha := appendRef_ev s L[i] (by omega)
    have e : AP s L[i] = (s ++ strOfNums (G L[i].toNat), 0) := if_neg (by omega)
    rw [e] at ha
    have hg := G_toNat_len L[i] hm.2
    have hs' := ih (i + 1) (s ++ strOfNums (G L[i].toNat)) (by omega) (by rw [ByteArray.size_append, str_size]; omega)
    rw [dropI hi, GL_cons, strOfNums_append, ← ByteArray.append_assoc]
    refine Ev.step (fun k => by rw [lookoutref30_Encode.l1, if_pos (by omega), if_pos (by omega), rdI hi, w1 (by omega)]) ?_
    exact Ev.bind ha hs'
theorem diffs_drop {H : List Int} {q : Int} {i : Nat} (h : i < H.length) (hq : q = if i = 0 then 0 else rd H ((i : Int) - 1)) : diffs q (H.drop i) = (H[i] - q) :: diffs H[i] (H.drop (i + 1)) := by
  rw [dropI h]; rfl
theorem encR_l0 (K C : Int) (H : List Int) (ho : OKK K C H) (R : ByteArray × Int) (hR : Ev (fun k => lookoutref30_Encode.l1 k (NS K C H) ⟨#[]⟩ 0) R) : ∀ (d i : Nat) (L : List Int) (q : Int), i + d = H.length → 0 ≤ q → q < 4294967296 → L.length ≤ i + 3 → L ++ diffs q (H.drop i) = NS K C H → Ev (fun k => lookoutref30_Encode.l0 k L q (i : Int) K C H) R := by
  have k2 := ho.2.1; have hlen := ho.len
  intro d
  induction d with
  | zero =>
    intro i L q h h0 h1 hL hN
    rw [List.drop_eq_nil_of_le (by omega), show diffs q [] = [] from rfl, List.append_nil] at hN
    rw [← hN] at hR
    exact Ev.step (fun k => by rw [lookoutref30_Encode.l0, if_neg (by omega)]) hR
  | succ d ih =>
    intro i L q h h0 h1 hL hN
    have hi : i < H.length := by omega
    have hm := ho.mem H[i] (List.getElem_mem hi)
    have hw : wrap64 (H[i] - q) = H[i] - q := by unfold wrap64; omega
    rw [dropI hi] at hN
    have hs := ih (i + 1) (L ++ [H[i] - q]) H[i] (by omega) hm.1 hm.2 (by rw [List.length_append]; simp; omega) (by rw [← hN, List.append_assoc]; rfl)
    exact Ev.step (fun k => by rw [lookoutref30_Encode.l0, if_pos (by omega), if_pos (by omega), if_pos (by omega), rdI hi, hw, w1 (by omega)]) hs
theorem encodeR_ev (K C : Int) (H : List Int) (hl : H.length ≤ 17592186043904) : Ev (fun k => lookoutref30_Encode.f k K C H) (ENC K C H) := by
  simp only [lookoutref30_Encode.f]
  refine Ev.bind (checkr_ev K C H hl) ?_
  unfold CK ENC
  by_cases h : OKK K C H
  · rw [if_pos h, if_pos h]
    have k2 := h.2.1; have hlen := h.len
    refine Ev.congr (fun k => if_pos rfl) ?_
    have hn : (NS K C H).length = H.length + 3 := by unfold NS; simp [diffs_len]
    have hb := encR_l1 (NS K C H) (ns_all h) (by omega) (NS K C H).length 0 ⟨#[]⟩ (by omega) (by show 0 + _ ≤ _; omega)
    rw [empty_append, List.drop_zero] at hb
    exact encR_l0 K C H h _ hb H.length 0 [K, C, (H.length : Int)] 0 (by omega) (by omega) (by omega) (by simp) rfl
  · rw [if_neg h, if_neg h]
    exact Ev.congr (fun k => if_neg (by decide)) (Ev.now _)
/-! ## Decode -/
theorem readR_round (n : Int) (s s' : ByteArray) (hs : s.size ≤ 140737488351232) (h0 : 0 ≤ n) (h1 : n ≤ 1152921504606846976) (h : bytesOf s = G n.toNat ++ bytesOf s') : Ev (fun k => lookoutref01_Read.f k s) (n, ((G n.toNat).length : Int), 0) ∧ s.extract (G n.toNat).length s.size = s' ∧ (G n.toNat).length ≤ s.size := by
  have hr := readRef_ev s hs
  have hr2 := RD_round n.toNat (bytesOf s') (by omega)
  rw [h, hr2, Int.toNat_of_nonneg h0] at hr
  refine ⟨hr, bytesOf_inj (by rw [bytesOf_from, h, List.drop_left]), ?_⟩
  have hsz : (bytesOf s).length = s.size := by simp [bytesOf]
  have hl := congrArg List.length h
  rw [List.length_append] at hl
  omega
theorem tl_ne {s : ByteArray} (h : bytesOf s ≠ []) : ¬ s.toList = ([] : List UInt8) := fun e => h (by
  rw [Go.ByteArray.toList_eq] at e
  simp [bytesOf, e])
theorem decR_round : ∀ (ns : List Int) (s : ByteArray) (acc : List Int) (r : Int × Int × List Int × Int), (∀ n ∈ ns, 0 ≤ n ∧ n ≤ 1152921504606846976) → s.size ≤ 140737488351232 → acc.length + ns.length ≤ 100000000 → bytesOf s = GL ns → Ev (fun k => lookoutref30_Decode.l0 k (acc ++ ns) ⟨#[]⟩) r → Ev (fun k => lookoutref30_Decode.l0 k acc s) r
  | [], s, acc, r, _, _, _, hb, hr => by
    have : s = ⟨#[]⟩ := bytesOf_inj (by rw [hb]; rfl)
    subst this
    rwa [List.append_nil] at hr
  | n :: ns, s, acc, r, hn, hs, hl, hb, hr => by
    have h0 := hn n (by simp)
    rw [List.length_cons] at hl
    have hb' : bytesOf s = G n.toNat ++ bytesOf (strOfNums (GL ns)) := by rw [hb, bytesOf_nums (GL_byte ns)]; rfl
    obtain ⟨e1, e2, e3⟩ := readR_round n s _ hs h0.1 h0.2 hb'
    have hpos := G_pos n.toNat
    have hne : bytesOf s ≠ [] := fun e => by
      rw [hb', List.append_eq_nil_iff] at e
      rw [e.1] at hpos
      simp at hpos
    have ih := decR_round ns (strOfNums (GL ns)) (acc ++ [n]) r (fun m hm => hn m (by simp [hm])) (by
      have := congrArg ByteArray.size e2
      rw [ByteArray.size_extract] at this
      omega) (by rw [List.length_append]; simp; omega) (bytesOf_nums (GL_byte ns)) (by rw [List.append_assoc]; exact hr)
    refine Ev.step (fun k => by rw [lookoutref30_Decode.l0, if_neg (tl_ne hne)]) ?_
    refine Ev.bind e1 ?_
    refine Ev.congr (fun k => ?_) ih
    rw [if_pos rfl, if_pos (by omega), if_pos (by dsimp only; omega), if_pos (by dsimp only; omega)]
    dsimp only
    rw [Int.toNat_natCast, e2]
theorem decR_cases : ∀ (m : Nat) (s : ByteArray) (acc : List Int), s.size ≤ m → m + acc.length ≤ 100000000 → (∃ ns, (∀ n ∈ ns, 0 ≤ n ∧ n ≤ 1152921504606846976) ∧ ns.length ≤ m ∧ bytesOf s = GL ns) ∨ Ev (fun k => lookoutref30_Decode.l0 k acc s) (0, 0, [], 12)
  | m, s, acc, hm, hl => by
    have hsz : (bytesOf s).length = s.size := by simp [bytesOf]
    by_cases he : bytesOf s = []
    · exact .inl ⟨[], by simp, by simp, by rw [he]; rfl⟩
    · have hr := readRef_ev s (by omega)
      by_cases h : (RD (bytesOf s)).2.2 = 0
      · obtain ⟨rest, h1, h2, h3, h4⟩ := RD_canon (l := bytesOf s) (v := (RD (bytesOf s)).1) (c := (RD (bytesOf s)).2.1) (bytes_in s) (by rw [← h])
        have hd : (bytesOf s).drop (G (RD (bytesOf s)).1.toNat).length = rest := by
          generalize (RD (bytesOf s)).1 = v at h1 ⊢
          rw [h1, List.drop_left]
        have hpos := G_pos (RD (bytesOf s)).1.toNat
        have hle := RD_size (bytes_in s) h
        have hcs : ((RD (bytesOf s)).2.1).toNat = (G (RD (bytesOf s)).1.toNat).length := by rw [h2, Int.toNat_natCast]
        have hx : bytesOf (s.extract (RD (bytesOf s)).2.1.toNat s.size) = rest := by rw [bytesOf_from, hcs, hd]
        have hxs : (s.extract (RD (bytesOf s)).2.1.toNat s.size).size = s.size - (RD (bytesOf s)).2.1.toNat := by rw [ByteArray.size_extract]; omega
        match m, hm, hl with
        | 0, hm, hl => exact absurd (List.length_eq_zero_iff.1 (by omega)) he
        | m + 1, hm, hl =>
          rcases decR_cases m (s.extract (RD (bytesOf s)).2.1.toNat s.size) (acc ++ [(RD (bytesOf s)).1]) (by omega) (by rw [List.length_append]; simp; omega) with ⟨ns, n1, n2, n3⟩ | g
          · refine .inl ⟨(RD (bytesOf s)).1 :: ns, fun x hx' => ?_, by simp; omega, ?_⟩
            · rcases List.mem_cons.1 hx' with rfl | hx'
              · exact ⟨h3, h4⟩
              · exact n1 x hx'
            · rw [hx] at n3; rw [GL_cons, ← n3]; exact h1
          · right
            refine Ev.step (fun k => by rw [lookoutref30_Decode.l0, if_neg (tl_ne he)]) ?_
            refine Ev.bind hr ?_
            refine Ev.congr (fun k => ?_) g
            rw [if_pos h, if_pos (by omega), if_pos (by omega), if_pos (by omega)]
      · right
        refine Ev.step (fun k => by rw [lookoutref30_Decode.l0, if_neg (tl_ne he)]) ?_
        exact Ev.bind hr (Ev.congr (fun k => if_neg h) (Ev.now _))
/-- What the reference makes of the numbers behind the third. -/
theorem decR_l1 (L : List Int) (hL : L.length ≤ 1003) (hn : ∀ n ∈ L, 0 ≤ n ∧ n ≤ 1152921504606846976) (K C : Int) : ∀ (d i : Nat) (q : Int) (acc : List Int), i + d = L.length → 0 ≤ q → q ≤ 4294967296 * (i : Int) → acc.length ≤ i →
    Ev (fun k => lookoutref30_Decode.l1 k L q (i : Int) K C acc) (0, 0, [], 12) ∨ ((∀ n ∈ L.drop i, n < 4294967296) ∧ Ev (fun k => lookoutref30_Decode.l1 k L q (i : Int) K C acc) (if OKK K C (acc ++ sums q (L.drop i)) then (K, C, acc ++ sums q (L.drop i), 0) else (0, 0, [], 12))) := by
  intro d
  induction d with
  | zero =>
    intro i q acc h h0 h1 ha
    right
    rw [List.drop_eq_nil_of_le (by omega), show sums q [] = [] from rfl, List.append_nil]
    refine ⟨by simp, Ev.step (fun k => by rw [lookoutref30_Decode.l1, if_neg (by omega)]) (Ev.bind (checkr_ev K C acc (by omega)) ?_)⟩
    unfold CK
    by_cases ho : OKK K C acc
    · rw [if_pos ho, if_pos ho]; exact Ev.congr (fun k => if_pos rfl) (Ev.now _)
    · rw [if_neg ho, if_neg ho]; exact Ev.congr (fun k => if_neg (by decide)) (Ev.now _)
  | succ d ih =>
    intro i q acc h h0 h1 ha
    have hi : i < L.length := by omega
    have hm := hn L[i] (List.getElem_mem hi)
    by_cases hc : L[i] ≥ 4294967296
    · exact .inl (Ev.step (fun k => by rw [lookoutref30_Decode.l1, if_pos (by omega), if_pos (by omega), rdI hi, if_pos hc]) (Ev.now _))
    · have hw : wrap64 (q + L[i]) = q + L[i] := by unfold wrap64; omega
      have st : ∀ k, lookoutref30_Decode.l1 (k + 1) L q (i : Int) K C acc = lookoutref30_Decode.l1 k L (q + L[i]) ((i + 1 : Nat) : Int) K C (acc ++ [q + L[i]]) := fun k => by
        rw [lookoutref30_Decode.l1, if_pos (by omega), if_pos (by omega), rdI hi, if_neg hc, if_pos (by omega), hw, w1 (by omega)]
      rcases ih (i + 1) (q + L[i]) (acc ++ [q + L[i]]) (by omega) (by omega) (by omega) (by rw [List.length_append]; simp; omega) with g | ⟨g1, g2⟩
      · exact .inl (Ev.step st g)
      · right
        rw [dropI hi, show sums q (L[i] :: L.drop (i + 1)) = (q + L[i]) :: sums (q + L[i]) (L.drop (i + 1)) from rfl]
        rw [List.append_assoc, List.singleton_append] at g2
        refine ⟨fun n hn' => ?_, Ev.step st g2⟩
        rcases List.mem_cons.1 hn' with rfl | hn'
        · omega
        · exact g1 n hn'
theorem decR_end (L : List Int) (hn : ∀ n ∈ L, 0 ≤ n ∧ n ≤ 1152921504606846976) (hl : L.length ≤ 100000000) : ∃ r : Int × Int × List Int × Int, Ev (fun k => lookoutref30_Decode.l0 k L ⟨#[]⟩) r ∧ (r = (0, 0, [], 12) ∨ ∃ K C H, r = (K, C, H, 0) ∧ OKK K C H ∧ L = NS K C H) := by
  have ht : (⟨#[]⟩ : ByteArray).toList = [] := by rw [Go.ByteArray.toList_eq]
  have bad : Ev (fun k => lookoutref30_Decode.j1 k L true) (0, 0, [], 12) := Ev.step (fun k => by rw [lookoutref30_Decode.j1, if_pos rfl]) (Ev.now _)
  by_cases h3 : (L.length : Int) < 3
  · exact ⟨_, Ev.step (fun k => by rw [lookoutref30_Decode.l0, if_pos ht, if_pos h3]) bad, .inl rfl⟩
  by_cases h4 : (L.length : Int) > 1003
  · exact ⟨_, Ev.step (fun k => by rw [lookoutref30_Decode.l0, if_pos ht, if_neg h3, if_pos h4]) bad, .inl rfl⟩
  match L, hn, hl, bad, h3, h4 with
  | [], _, _, _, h3, _ => simp at h3
  | [_], _, _, _, h3, _ => simp at h3
  | [_, _], _, _, _, h3, _ => simp at h3
  | K :: C :: n :: ds, hn, hl, bad, h3, h4 =>
    have e0 : rd (K :: C :: n :: ds) 0 = K := rfl
    have e1 : rd (K :: C :: n :: ds) 1 = C := rfl
    have e2 : rd (K :: C :: n :: ds) 2 = n := rfl
    simp only [List.length_cons] at h3 h4 hl
    have hw : wrap64 (((K :: C :: n :: ds).length : Int) - 3) = (ds.length : Int) := by simp only [List.length_cons]; unfold wrap64; omega
    have st : Ev (fun k => lookoutref30_Decode.j1 k (K :: C :: n :: ds) (n != (ds.length : Int))) = Ev (fun k => lookoutref30_Decode.j1 k (K :: C :: n :: ds) (n != (ds.length : Int))) := rfl
    have step : ∀ r, Ev (fun k => lookoutref30_Decode.j1 k (K :: C :: n :: ds) (n != (ds.length : Int))) r → Ev (fun k => lookoutref30_Decode.l0 k (K :: C :: n :: ds) ⟨#[]⟩) r := fun r hr =>
      Ev.step (fun k => by rw [lookoutref30_Decode.l0, if_pos ht, if_neg (by simp only [List.length_cons]; omega), if_neg (by simp only [List.length_cons]; omega), if_pos (by simp only [List.length_cons]; omega), e2, hw]) hr
    by_cases hc : n = (ds.length : Int)
    · have hb : (n != (ds.length : Int)) = false := bne_eq_false_iff_eq.mpr hc
      have go : ∀ r, Ev (fun k => lookoutref30_Decode.l1 k (K :: C :: n :: ds) 0 3 K C []) r → Ev (fun k => lookoutref30_Decode.l0 k (K :: C :: n :: ds) ⟨#[]⟩) r := fun r hr => by
        refine step r ?_
        rw [hb]
        exact Ev.step (fun k => by rw [lookoutref30_Decode.j1, if_neg (by decide), if_pos (by simp only [List.length_cons]; omega), if_pos (by simp only [List.length_cons]; omega), e0, e1]) hr
      rcases decR_l1 (K :: C :: n :: ds) (by simp only [List.length_cons]; omega) hn K C ds.length 3 0 [] (by simp only [List.length_cons]; omega) (by omega) (by omega) (by simp) with g | ⟨g1, g2⟩
      · exact ⟨_, go _ g, .inl rfl⟩
      · rw [show (K :: C :: n :: ds).drop 3 = ds from rfl, List.nil_append] at g2
        by_cases ho : OKK K C (sums 0 ds)
        · rw [if_pos ho] at g2
          refine ⟨_, go _ g2, .inr ⟨K, C, sums 0 ds, rfl, ho, ?_⟩⟩
          unfold NS
          rw [diffs_sums, sums_len, hc]
        · rw [if_neg ho] at g2
          exact ⟨_, go _ g2, .inl rfl⟩
    · have hb : (n != (ds.length : Int)) = true := bne_iff_ne.mpr hc
      refine ⟨_, step _ ?_, .inl rfl⟩
      rw [hb]; exact bad
theorem decR_good {K C : Int} {H : List Int} (h : OKK K C H) : Ev (fun k => lookoutref30_Decode.l0 k (NS K C H) ⟨#[]⟩) (K, C, H, 0) := by
  have k1 := h.1; have k2 := h.2.1; have c1 := h.2.2.1; have c2 := h.2.2.2.1; have l1 := h.2.2.2.2.1
  have ht : (⟨#[]⟩ : ByteArray).toList = [] := by rw [Go.ByteArray.toList_eq]
  have hlen : (NS K C H).length = H.length + 3 := by unfold NS; simp [diffs_len]
  have hw : wrap64 (((NS K C H).length : Int) - 3) = (H.length : Int) := by rw [hlen]; unfold wrap64; omega
  refine Ev.step (f := fun k => lookoutref30_Decode.j1 k (NS K C H) false) (fun k => by
    rw [lookoutref30_Decode.l0, if_pos ht, if_neg (by omega), if_neg (by omega), if_pos (by omega), hw, show rd (NS K C H) 2 = (H.length : Int) from rfl, bne_eq_false_iff_eq.mpr rfl]) ?_
  refine Ev.step (f := fun k => lookoutref30_Decode.l1 k (NS K C H) 0 3 K C []) (fun k => by
    rw [lookoutref30_Decode.j1, if_neg (by decide), if_pos (by omega), if_pos (by omega)]; rfl) ?_
  have hd : (NS K C H).drop 3 = diffs 0 H := rfl
  rcases decR_l1 (NS K C H) (by omega) (ns_all h) K C H.length 3 0 [] (by omega) (by omega) (by omega) (by simp) with g | ⟨g1, g2⟩
  · -- a number of 2^32 or more is none of a sketch's
    have good : ∀ (d i : Nat) (q : Int) (acc : List Int), 3 ≤ i → i + d = (NS K C H).length → 0 ≤ q → q ≤ 4294967296 * (i : Int) → acc.length ≤ i → acc ++ sums q ((NS K C H).drop i) = H → Ev (fun k => lookoutref30_Decode.l1 k (NS K C H) q (i : Int) K C acc) (K, C, H, 0) := by
      intro d
      induction d with
      | zero =>
        intro i q acc h3i hi hq0 hq1 ha hs
        rw [List.drop_eq_nil_of_le (by omega), show sums q [] = [] from rfl, List.append_nil] at hs
        subst hs
        refine Ev.step (fun k => by rw [lookoutref30_Decode.l1, if_neg (by omega)]) (Ev.bind (checkr_ev K C acc (by omega)) ?_)
        rw [show CK K C acc = 0 from if_pos h]; exact Ev.congr (fun k => if_pos rfl) (Ev.now _)
      | succ d ih =>
        intro i q acc h3i hi hq0 hq1 ha hs
        have hil : i < (NS K C H).length := by omega
        have hmem : (NS K C H)[i] ∈ diffs 0 H := by
          rw [← hd, List.mem_iff_getElem]
          exact ⟨i - 3, by rw [List.length_drop]; omega, by rw [List.getElem_drop]; congr 1; omega⟩
        have hb := UP_diffs H 0 (by omega) h.up _ hmem
        have hw : wrap64 (q + (NS K C H)[i]) = q + (NS K C H)[i] := by unfold wrap64; omega
        rw [dropI hil] at hs
        exact Ev.step (fun k => by rw [lookoutref30_Decode.l1, if_pos (by omega), if_pos (by omega), rdI hil, if_neg (by omega), if_pos (by omega), hw, w1 (by omega)])
          (ih (i + 1) (q + (NS K C H)[i]) (acc ++ [q + (NS K C H)[i]]) (by omega) (by omega) (by omega) (by omega) (by rw [List.length_append]; simp; omega) (by rw [List.append_assoc]; exact hs))
    exact good H.length 3 0 [] (by omega) (by omega) (by omega) (by omega) (by simp) (by rw [hd, sums_diffs]; rfl)
  · rw [hd, sums_diffs, List.nil_append, if_pos h] at g2
    exact g2
/-- Decode and the reference's Decode answer the same. -/
theorem decode_same (s : ByteArray) (hs : s.size ≤ 1000000) : ∃ r : Int × Int × List Int × Int, Ev (fun k => kmv_Decode.f k s) r ∧ Ev (fun k => lookoutref30_Decode.f k s) r ∧ r.2.2.1.length ≤ 1000 := by
  have fin : ∀ r : Int × Int × List Int × Int, (r = (0, 0, [], 12) ∨ ∃ K C H, r = (K, C, H, 0) ∧ OKK K C H ∧ bytesOf s = EB K C H) → r.2.2.1.length ≤ 1000 := by
    rintro r (rfl | ⟨K, C, H, rfl, ho, _⟩)
    · simp
    · have := ho.2.1; have := ho.len; dsimp only; omega
  by_cases hx : ∃ K C H, OKK K C H ∧ bytesOf s = EB K C H
  · obtain ⟨K, C, H, ho, hb⟩ := hx
    have hl : (NS K C H).length ≤ 1003 := by have := ho.2.1; have := ho.len; unfold NS; simp [diffs_len]; omega
    exact ⟨(K, C, H, 0), decode_round ho hb, decR_round (NS K C H) s [] _ (ns_all ho) (by omega) (by simp; omega) hb (decR_good ho), fin _ (.inr ⟨K, C, H, rfl, ho, hb⟩)⟩
  · obtain ⟨r, hr, hc⟩ := decode_ok s
    rcases hc with rfl | ⟨K, C, H, rfl, ho, hb⟩
    · refine ⟨_, hr, ?_, by simp⟩
      rcases decR_cases s.size s [] (Nat.le_refl _) (by simp; omega) with ⟨ns, n1, n2, n3⟩ | g
      · obtain ⟨r, hr2, hc2⟩ := decR_end ns n1 (by omega)
        rcases hc2 with rfl | ⟨K, C, H, rfl, ho, hN⟩
        · exact decR_round ns s [] _ n1 (by omega) (by simp; omega) n3 hr2
        · exact absurd ⟨K, C, H, ho, by rw [n3, hN]; rfl⟩ hx
      · exact g
    · exact absurd ⟨K, C, H, ho, hb⟩ hx
end Go.Proofs.Ythblifjeecdhcaa.KB
