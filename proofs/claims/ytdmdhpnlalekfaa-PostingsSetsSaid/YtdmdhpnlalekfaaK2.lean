/- Plain facts on lists of numbers: what Seek, Encode and Decode of the postings chapter and of its reference answer. No condition beyond those in the statements. -/
import Derived.Test.YtdmdhpnlalekfaaK1
import Derived.Laws.Strings
namespace Go.Proofs.Ytdmdhpnlalekfaa.VB
open Go.RowKit Go.Proofs.Ytdmdhpnlalekfaa.P Go.Proofs.Ytdmdhpnlalekfaa.A Go.Proofs.Ytdmdhpnlalekfaa.Hand Go.Proofs.YtdmdhpnlalekfaaW.PrintWords Go.Proofs.YtdmdhpnlalekfaaW.PrintLast Go.Proofs.YtdmdhpnlalekfaaW.PrintMore
/-! ## Seek -/
def SK (l : List Int) (x : Int) : Nat := (l.takeWhile (fun y => decide (y < x))).length
theorem SK_le (l : List Int) (x : Int) : SK l x ≤ l.length := by
  unfold SK
  have := congrArg List.length (List.takeWhile_append_dropWhile (p := fun y => decide (y < x)) (l := l))
  rw [List.length_append] at this
  omega
theorem rd_nat (l : List Int) (i : Nat) : rd l (i : Int) = l.getD i 0 := by simp [rd]
theorem SK_eq : ∀ (l : List Int) (x : Int) (i : Nat), i ≤ l.length → (∀ t : Nat, t < i → rd l t < x) → (∀ t : Nat, i ≤ t → t < l.length → x ≤ rd l t) → SK l x = i
  | [], x, i, h, _, _ => by simp at h; subst h; rfl
  | y :: r, x, i, h, h1, h2 => by
    unfold SK
    by_cases hy : y < x
    · rw [List.takeWhile_cons_of_pos (by simpa using hy)]
      have hi : 0 < i := by
        rcases Nat.eq_zero_or_pos i with h0 | h0
        · have := h2 0 (by omega) (by simp)
          rw [rd_nat] at this
          simp at this
          omega
        · exact h0
      have := SK_eq r x (i - 1) (by simp at h; omega) (fun t ht => by
        have := h1 (t + 1) (by omega)
        rw [rd_nat] at this ⊢
        simpa using this) (fun t ht hl => by
        have := h2 (t + 1) (by omega) (by simpa using hl)
        rw [rd_nat] at this ⊢
        simpa using this)
      unfold SK at this
      rw [List.length_cons, this]
      omega
    · rw [List.takeWhile_cons_of_neg (by simpa using hy)]
      rcases Nat.eq_zero_or_pos i with h0 | h0
      · simp [h0]
      · have := h1 0 h0
        rw [rd_nat] at this
        simp at this
        omega
theorem SK_lt : ∀ (l : List Int) (x : Int) (t : Nat), t < SK l x → rd l t < x
  | [], x, t, h => by simp [SK] at h
  | y :: r, x, t, h => by
    unfold SK at h
    by_cases hy : y < x
    · rw [List.takeWhile_cons_of_pos (by simpa using hy), List.length_cons] at h
      cases t with
      | zero => rw [rd_nat]; simpa using hy
      | succ t =>
        have := SK_lt r x t (by unfold SK; omega)
        rw [rd_nat] at this ⊢
        simpa using this
    · rw [List.takeWhile_cons_of_neg (by simpa using hy)] at h
      simp at h
theorem SK_ge : ∀ (l : List Int) (x : Int), SK l x < l.length → x ≤ rd l (SK l x)
  | [], x, h => by simp at h
  | y :: r, x, h => by
    by_cases hy : y < x
    · have e : SK (y :: r) x = SK r x + 1 := by unfold SK; rw [List.takeWhile_cons_of_pos (by simpa using hy), List.length_cons]
      rw [e] at h ⊢
      have := SK_ge r x (by simpa using h)
      rw [rd_nat] at this ⊢
      simpa using this
    · have e : SK (y :: r) x = 0 := by unfold SK; rw [List.takeWhile_cons_of_neg (by simpa using hy)]; rfl
      rw [e, rd_nat]
      simp
      omega
theorem seekRef_l0 (l : List Int) (x : Int) (hl : l.length ≤ 17592186043904) : ∀ (d i : Nat), i + d = SK l x → Ev (fun k => lookoutref08_Seek.l0 k l x (i : Int)) (SK l x : Int) := by
  have hle := SK_le l x
  intro d
  induction d with
  | zero =>
    intro i h
    obtain rfl : i = SK l x := by omega
    by_cases hlt : SK l x < l.length
    · exact Ev.step (fun k => by rw [lookoutref08_Seek.l0, if_pos (by omega), if_pos (by omega), if_neg (by have := SK_ge l x hlt; omega)]) (Ev.now _)
    · exact Ev.step (fun k => by rw [lookoutref08_Seek.l0, if_neg (by omega)]) (Ev.now _)
  | succ d ih =>
    intro i h
    have hw : wrap64 ((i : Int) + 1) = ((i + 1 : Nat) : Int) := by unfold wrap64; omega
    exact Ev.step (fun k => by rw [lookoutref08_Seek.l0, if_pos (by omega), if_pos (by omega), if_pos (SK_lt l x i (by omega)), hw]) (ih (i + 1) (by omega))
theorem seekRef_ev (l : List Int) (x : Int) (hl : l.length ≤ 17592186043904) : Ev (fun k => lookoutref08_Seek.f k l x) (if CK l = 0 then (SK l x : Int) else 0) := by
  simp only [lookoutref08_Seek.f]
  refine Ev.bind (checkRef_ev l hl) ?_
  by_cases h : CK l = 0
  · simp only [if_pos h]; exact seekRef_l0 l x hl (SK l x) 0 (by omega)
  · simp only [if_neg h]; exact Ev.now _
theorem VL_lt {l : List Int} (h : VL l) {i j : Nat} (hij : i < j) (hj : j < l.length) : rd l i < rd l j := by
  have := List.pairwise_iff_getElem.1 h.2 i j (by omega) hj hij
  rw [rd_nat, rd_nat]
  simpa [List.getD, List.getElem?_eq_getElem, hj, show i < l.length by omega] using this
theorem less_is (a b : Int) : cmp_Less_int.f a b = some (decide (a < b)) := by
  simp [cmp_Less_int.f, cmp_isNaN_int.f]
theorem binary_l0 (l : List Int) (x : Int) (hl : l.length ≤ 17592186043904) (hv : VL l) : ∀ (d i j : Nat), j - i ≤ d → i ≤ j → j ≤ l.length → (∀ t : Nat, t < i → rd l t < x) → (∀ t : Nat, j ≤ t → t < l.length → x ≤ rd l t) →
    ∃ b, Ev (fun k => slices_BinarySearch_int_int.l0 k l x (l.length : Int) (i : Int) (j : Int)) ((SK l x : Int), b) := by
  have fin : ∀ i : Nat, i ≤ l.length → (∀ t : Nat, t < i → rd l t < x) → (∀ t : Nat, i ≤ t → t < l.length → x ≤ rd l t) → ∃ b, Ev (fun k => slices_BinarySearch_int_int.l0 k l x (l.length : Int) (i : Int) (i : Int)) ((SK l x : Int), b) := by
    intro i hi h1 h2
    have e := SK_eq l x i hi h1 h2
    rw [e]
    by_cases hlt : i < l.length
    · by_cases hx : rd l i = x
      · exact ⟨true, Ev.step (fun k => by rw [slices_BinarySearch_int_int.l0, if_neg (by omega), if_pos (by omega), if_pos (by omega), if_pos (by omega), if_pos hx]) (Ev.now _)⟩
      · exact ⟨false, Ev.step (fun k => by
          rw [slices_BinarySearch_int_int.l0, if_neg (by omega), if_pos (by omega), if_pos (by omega), if_pos (by omega), if_neg hx]
          simp [slices_isNaN_int.f]) (Ev.now _)⟩
    · exact ⟨false, Ev.step (fun k => by rw [slices_BinarySearch_int_int.l0, if_neg (by omega), if_neg (by omega)]) (Ev.now _)⟩
  intro d
  induction d with
  | zero =>
    intro i j h1 h2 h3 h4 h5
    obtain rfl : i = j := by omega
    exact fin i h3 h4 h5
  | succ d ih =>
    intro i j h1 h2 h3 h4 h5
    by_cases hij : i < j
    · have hh : wrap64 ((IntKind.u64.wrap (wrap64 ((i : Int) + (j : Int)))) / 2) = (((i + j) / 2 : Nat) : Int) := by
        rw [IntKind.wrap_u64]
        unfold wrap64
        omega
      have hw : wrap64 ((((i + j) / 2 : Nat) : Int) + 1) = (((i + j) / 2 + 1 : Nat) : Int) := by unfold wrap64; omega
      by_cases hx : rd l (((i + j) / 2 : Nat) : Int) < x
      · obtain ⟨b, hb⟩ := ih ((i + j) / 2 + 1) j (by omega) (by omega) h3 (fun t ht => by
          rcases Nat.lt_or_ge t ((i + j) / 2) with h | h
          · have := VL_lt hv h (by omega); omega
          · obtain rfl : t = (i + j) / 2 := by omega
            exact hx) h5
        refine ⟨b, Ev.step (fun k => ?_) hb⟩
        rw [slices_BinarySearch_int_int.l0, if_pos (by omega), hh, if_pos (by omega), if_pos (by omega), less_is]
        simp only [Option.bind_some, decide_eq_true hx, if_true, hw]
      · obtain ⟨b, hb⟩ := ih i ((i + j) / 2) (by omega) (by omega) (by omega) h4 (fun t ht htl => by
          rcases Nat.lt_or_ge ((i + j) / 2) t with h | h
          · have := VL_lt hv h htl; omega
          · obtain rfl : t = (i + j) / 2 := by omega
            omega)
        refine ⟨b, Ev.step (fun k => ?_) hb⟩
        rw [slices_BinarySearch_int_int.l0, if_pos (by omega), hh, if_pos (by omega), if_pos (by omega), less_is]
        simp only [Option.bind_some, decide_eq_false hx, if_neg (show ¬ (false = true) by decide)]
    · obtain rfl : i = j := by omega
      exact fin i h3 h4 h5
theorem seek_ev (l : List Int) (x : Int) (hl : l.length ≤ 17592186043904) : Ev (fun k => postings_Seek.f k l x) (if CK l = 0 then (SK l x : Int) else 0) := by
  simp only [postings_Seek.f]
  refine Ev.bind (valid1_ev l hl) ?_
  by_cases h : CK l = 0
  · simp only [h, decide_true, if_true]
    obtain ⟨b, hb⟩ := binary_l0 l x hl ((CK_zero l).1 h) l.length 0 l.length (by omega) (by omega) (Nat.le_refl _) (fun t ht => by omega) (fun t h1 h2 => by omega)
    have hb' : Ev (fun k => slices_BinarySearch_int_int.f k l x) ((SK l x : Int), b) := hb
    exact Ev.bind hb' (Ev.now _)
  · simp only [h, decide_false, if_neg (show ¬ (false = true) by decide), if_false]
    exact Ev.now _

/-! ## Decode -/
def DP : Nat → Int → List Int → List Int → List Int × Int
  | 0, _, bs, acc => if bs = [] then (acc, 0) else ([], 12)
  | c + 1, q, bs, acc => if (RD bs).2.2 = 0 then (if 1152921504606846976 < q + 1 + (RD bs).1 then ([], 12) else DP c (q + 1 + (RD bs).1) (bs.drop (RD bs).2.1.toNat) (acc ++ [q + 1 + (RD bs).1])) else ([], 12)
def PD (bs : List Int) : List Int × Int :=
  if (RD bs).2.2 = 0 then (if (bs.length : Int) - (RD bs).2.1 < (RD bs).1 then ([], 12) else DP (RD bs).1.toNat (-1) (bs.drop (RD bs).2.1.toNat) []) else ([], 12)
theorem DP_short : ∀ (c : Nat) (q : Int) (bs acc : List Int), (∀ b ∈ bs, 0 ≤ b ∧ b ≤ 255) → bs.length < c → DP c q bs acc = ([], 12)
  | c + 1, q, bs, acc, hb, h => by
    rw [DP]
    by_cases h0 : (RD bs).2.2 = 0
    · have := RD_size hb h0
      rw [if_pos h0]
      split
      · rfl
      · exact DP_short c _ _ _ (drop_byte hb _) (by rw [List.length_drop]; omega)
    · rw [if_neg h0]
theorem extract_from (s : ByteArray) (a : Int) : bytesOf (s.extract a.toNat s.size) = (bytesOf s).drop a.toNat := bytesOf_from s a.toNat
theorem bytesOf_size (s : ByteArray) : (bytesOf s).length = s.size := by simp [bytesOf]
theorem decode8_l0 (s : ByteArray) (hs : s.size ≤ 1000000) (c : Nat) : ∀ (d i a : Nat) (q : Int) (acc : List Int), i + d = c → c ≤ 1000000 → a ≤ s.size → acc.length = i → -1 ≤ q → q ≤ 1152921504606846976 →
    Ev (fun k => postings_Decode.l0 k s (a : Int) acc q (c : Int) (i : Int)) (DP d q ((bytesOf s).drop a) acc) := by
  intro d
  induction d with
  | zero =>
    intro i a q acc h hc ha hacc hq0 hq1
    rw [DP]
    by_cases he : a = s.size
    · rw [if_pos (List.drop_eq_nil_of_le (by rw [bytesOf_size]; omega))]
      exact Ev.step (fun k => by rw [postings_Decode.l0, if_neg (by omega), if_pos (by omega)]) (Ev.now _)
    · rw [if_neg (fun hn => by
        have := congrArg List.length hn
        rw [List.length_drop, bytesOf_size] at this
        simp at this
        omega)]
      exact Ev.step (fun k => by rw [postings_Decode.l0, if_neg (by omega), if_neg (by omega)]) (Ev.now _)
  | succ d ih =>
    intro i a q acc h hc ha hacc hq0 hq1
    rw [DP]
    have hr : varint_Read.f (s.extract (a : Int).toNat s.size) = some (RD ((bytesOf s).drop a)) := by rw [read_is, extract_from s]; rfl
    have hbd := drop_byte (bytes_in s) a
    have hw : wrap64 ((i : Int) + 1) = ((i + 1 : Nat) : Int) := by unfold wrap64; omega
    by_cases h0 : (RD ((bytesOf s).drop a)).2.2 = 0
    · obtain ⟨z0, z1, z2, z3⟩ := RD_size hbd h0
      rw [List.length_drop, bytesOf_size] at z1
      have e1 : wrap64 (wrap64 (q + 1) + (RD ((bytesOf s).drop a)).1) = q + 1 + (RD ((bytesOf s).drop a)).1 := by unfold wrap64; omega
      have e2 : wrap64 ((a : Int) + (RD ((bytesOf s).drop a)).2.1) = ((a + (RD ((bytesOf s).drop a)).2.1.toNat : Nat) : Int) := by unfold wrap64; omega
      rw [if_pos h0]
      by_cases hx : 1152921504606846976 < q + 1 + (RD ((bytesOf s).drop a)).1
      · rw [if_pos hx]
        refine Ev.step (fun k => ?_) (Ev.now _)
        rw [postings_Decode.l0, if_pos (by omega), if_pos (by omega), if_pos (by omega), hr]
        simp only [Option.bind_some, if_pos h0, e1, gt_iff_lt, if_pos hx]
      · rw [if_neg hx, List.drop_drop]
        refine Ev.step (fun k => ?_) (ih (i + 1) (a + (RD ((bytesOf s).drop a)).2.1.toNat) _ _ (by omega) hc (by omega) (by rw [List.length_append, hacc]; rfl) (by omega) (by omega))
        rw [postings_Decode.l0, if_pos (by omega), if_pos (by omega), if_pos (by omega), hr]
        simp only [Option.bind_some, if_pos h0, e1, e2, gt_iff_lt, if_neg hx, hw, if_pos (show acc.length < 17592186044416 by omega)]
    · rw [if_neg h0]
      refine Ev.step (fun k => ?_) (Ev.now _)
      rw [postings_Decode.l0, if_pos (by omega), if_pos (by omega), if_pos (by omega), hr]
      simp only [Option.bind_some, if_neg h0]
theorem decode8_ev (s : ByteArray) (hs : s.size ≤ 1000000) : Ev (fun k => postings_Decode.f k s) (PD (bytesOf s)) := by
  simp only [postings_Decode.f, read_is, Option.bind_some]
  unfold PD
  by_cases h0 : (RD (bytesOf s)).2.2 = 0
  · obtain ⟨z0, z1, z2, z3⟩ := RD_size (bytes_in s) h0
    rw [bytesOf_size] at z1
    have e1 : wrap64 ((s.size : Int) - (RD (bytesOf s)).2.1) = (s.size : Int) - (RD (bytesOf s)).2.1 := by unfold wrap64; omega
    simp only [if_pos h0, e1, bytesOf_size, gt_iff_lt]
    by_cases hc : (s.size : Int) - (RD (bytesOf s)).2.1 < (RD (bytesOf s)).1
    · rw [if_pos hc]
      exact Ev.step (fun k => by rw [postings_Decode.j0, if_pos (decide_eq_true hc)]) (Ev.now _)
    · rw [if_neg hc]
      obtain ⟨c, hcc⟩ := Int.eq_ofNat_of_zero_le z2
      obtain ⟨a, haa⟩ := Int.eq_ofNat_of_zero_le (show 0 ≤ (RD (bytesOf s)).2.1 by omega)
      have := decode8_l0 s hs c c 0 a (-1) [] (by omega) (by omega) (by omega) rfl (by omega) (by omega)
      simp only [hcc, haa, Int.toNat_natCast] at hc ⊢
      exact Ev.step (fun k => by rw [postings_Decode.j0, if_neg (by simpa using hc), if_pos (by omega), Int.toNat_natCast, if_pos (by omega)]; rfl) this
  · simp only [if_neg h0]
    exact Ev.step (fun k => by rw [postings_Decode.j0, if_pos rfl]) (Ev.now _)
theorem tl_data (s : ByteArray) : s.toList = s.data.toList := by
  rw [Go.ByteArray.toList_eq]
theorem decodeRefE (s : ByteArray) (n e q : Int) (acc : List Int) (he : e ≠ 0) : Ev (fun k => lookoutref08_Decode.l0 k s n e acc q) ([], 12) :=
  Ev.step (fun k => by rw [lookoutref08_Decode.l0, if_neg he]) (Ev.step (fun k => by rw [lookoutref08_Decode.j1, if_neg (by decide), if_neg he]) (Ev.now _))
theorem RD_le (l : List Int) (hb : ∀ b ∈ l, 0 ≤ b ∧ b ≤ 255) : 0 ≤ (RD l).2.1 ∧ (RD l).2.1 ≤ l.length ∧ 0 ≤ (RD l).1 ∧ (RD l).1 ≤ 1152921504606846976 := by
  by_cases h : (RD l).2.2 = 0
  · have := RD_size hb h; omega
  · rw [RD_err h]; simp
theorem decodeRef8_l0 : ∀ (n : Nat) (s : ByteArray) (c : Nat) (q : Int) (acc : List Int), s.size = n → n + acc.length ≤ 2000000 → acc.length ≤ c → c ≤ 1152921504606846976 → -1 ≤ q → q ≤ 1152921504606846976 →
    Ev (fun k => lookoutref08_Decode.l0 k s (c : Int) 0 acc q) (DP (c - acc.length) q (bytesOf s) acc) := by
  intro n
  induction n using Nat.strongRecOn with
  | _ n ih =>
    intro s c q acc hs hn hac hc hq0 hq1
    refine Ev.step (fun k => by rw [lookoutref08_Decode.l0, if_pos rfl]) ?_
    by_cases hlt : acc.length < c
    · obtain ⟨m, hm⟩ : ∃ m, c - acc.length = m + 1 := ⟨c - acc.length - 1, by omega⟩
      rw [hm, DP]
      have hd : decide ((acc.length : Int) < (c : Int)) = true := decide_eq_true (by omega)
      obtain ⟨y0, y1, y2, y3⟩ := RD_le (bytesOf s) (bytes_in s)
      rw [bytesOf_size] at y1
      have e1 : wrap64 (wrap64 (1152921504606846976 - q) - 1) = 1152921504606846976 - q - 1 := by unfold wrap64; omega
      have e2 : wrap64 (wrap64 (q + 1) + (RD (bytesOf s)).1) = q + 1 + (RD (bytesOf s)).1 := by unfold wrap64; omega
      rw [hd]
      refine Ev.step (f := fun k => (lookoutref01_Read.f k s).bind fun bt => (if 0 ≤ bt.2.1 then (if bt.2.1 ≤ (s.size : Int) then (if bt.2.2 = 0 then (if bt.1 > (wrap64 ((wrap64 (1152921504606846976 - q)) - 1)) then (if acc.length < 17592186044416 then (lookoutref08_Decode.l0 k (s.extract (bt.2.1 : Int).toNat s.size) c 12 (acc ++ [wrap64 ((wrap64 (q + 1)) + bt.1)]) (wrap64 ((wrap64 (q + 1)) + bt.1))) else (none)) else (if acc.length < 17592186044416 then (lookoutref08_Decode.l0 k (s.extract (bt.2.1 : Int).toNat s.size) c bt.2.2 (acc ++ [wrap64 ((wrap64 (q + 1)) + bt.1)]) (wrap64 ((wrap64 (q + 1)) + bt.1))) else (none))) else (if acc.length < 17592186044416 then (lookoutref08_Decode.l0 k (s.extract (bt.2.1 : Int).toNat s.size) c bt.2.2 (acc ++ [wrap64 ((wrap64 (q + 1)) + bt.1)]) (wrap64 ((wrap64 (q + 1)) + bt.1))) else (none))) else (none)) else (none)))
        (fun k => by rw [lookoutref08_Decode.j1, if_pos rfl]) (Ev.bind (readRef_ev s (by omega)) ?_)
      simp only [if_pos y0, if_pos y1, e1, e2, if_pos (show acc.length < 17592186044416 by omega)]
      by_cases h0 : (RD (bytesOf s)).2.2 = 0
      · obtain ⟨z0, z1, z2, z3⟩ := RD_size (bytes_in s) h0
        simp only [if_pos h0]
        by_cases hx : 1152921504606846976 < q + 1 + (RD (bytesOf s)).1
        · simp only [if_pos hx, if_pos (show (RD (bytesOf s)).1 > 1152921504606846976 - q - 1 by omega)]
          exact decodeRefE _ _ _ _ _ (by decide)
        · simp only [if_neg hx, if_neg (show ¬ (RD (bytesOf s)).1 > 1152921504606846976 - q - 1 by omega), h0]
          have hsz : (s.extract (RD (bytesOf s)).2.1.toNat s.size).size = s.size - (RD (bytesOf s)).2.1.toNat := by simp
          have := ih (s.size - (RD (bytesOf s)).2.1.toNat) (by omega) (s.extract (RD (bytesOf s)).2.1.toNat s.size) c (q + 1 + (RD (bytesOf s)).1) (acc ++ [q + 1 + (RD (bytesOf s)).1]) hsz (by rw [List.length_append, List.length_singleton]; omega) (by rw [List.length_append, List.length_singleton]; omega) hc (by omega) (by omega)
          rw [extract_from s, List.length_append, List.length_singleton, show c - (acc.length + 1) = m by omega] at this
          exact this
      · simp only [if_neg h0]
        exact decodeRefE _ _ _ _ _ h0
    · obtain rfl : c = acc.length := by omega
      rw [Nat.sub_self, DP]
      have hd : decide ((acc.length : Int) < (acc.length : Int)) = false := decide_eq_false (by omega)
      rw [hd]
      by_cases hb : bytesOf s = []
      · rw [if_pos hb]
        have : s.toList = [] := by
          rw [tl_data]
          have := congrArg List.length hb
          rw [bytesOf_size] at this
          exact List.eq_nil_of_length_eq_zero (by rw [Array.length_toList]; exact this)
        exact Ev.step (fun k => by rw [lookoutref08_Decode.j1, if_neg (by decide), if_pos rfl, if_pos this]) (Ev.now _)
      · rw [if_neg hb]
        have : ¬ s.toList = [] := fun h => hb (by
          rw [tl_data] at h
          have := congrArg List.length h
          rw [Array.length_toList] at this
          exact List.eq_nil_of_length_eq_zero (by rw [bytesOf_size]; exact this))
        exact Ev.step (fun k => by rw [lookoutref08_Decode.j1, if_neg (by decide), if_pos rfl, if_neg this]) (Ev.now _)
theorem decodeRef8_ev (s : ByteArray) (hs : s.size ≤ 1000000) : Ev (fun k => lookoutref08_Decode.f k s) (PD (bytesOf s)) := by
  simp only [lookoutref08_Decode.f]
  refine Ev.bind (readRef_ev s (by omega)) ?_
  obtain ⟨y0, y1, y2, y3⟩ := RD_le (bytesOf s) (bytes_in s)
  rw [bytesOf_size] at y1
  simp only [if_pos y0, if_pos y1]
  unfold PD
  by_cases h0 : (RD (bytesOf s)).2.2 = 0
  · rw [h0, if_pos rfl]
    obtain ⟨c, hcc⟩ := Int.eq_ofNat_of_zero_le y2
    have hsz : (s.extract (RD (bytesOf s)).2.1.toNat s.size).size = s.size - (RD (bytesOf s)).2.1.toNat := by simp
    have := decodeRef8_l0 (s.size - (RD (bytesOf s)).2.1.toNat) (s.extract (RD (bytesOf s)).2.1.toNat s.size) c (-1) [] hsz (by simp; omega) (Nat.zero_le _) (by omega) (by omega) (by omega)
    rw [extract_from s, List.length_nil, Nat.sub_zero] at this
    rw [hcc]
    by_cases hc : ((bytesOf s).length : Int) - (RD (bytesOf s)).2.1 < (c : Int)
    · rw [if_pos hc]
      rw [DP_short c _ _ _ (drop_byte (bytes_in s) _) (by rw [List.length_drop]; rw [bytesOf_size] at hc ⊢; omega)] at this
      exact this
    · rw [if_neg hc, Int.toNat_natCast]
      exact this
  · rw [if_neg h0]
    exact decodeRefE _ _ _ _ _ h0
end Go.Proofs.Ytdmdhpnlalekfaa.VB
