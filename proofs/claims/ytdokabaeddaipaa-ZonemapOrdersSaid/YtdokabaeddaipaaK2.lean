/- Zones: their bits and bounds under adding and merging. No condition beyond those in the statements. -/
import Derived.Test.YtdokabaeddaipaaK1
import Derived.Laws.BitsAllLaws
import Derived.Laws.Closers25b
namespace Go.Proofs.Ytdokabaeddaipaa.K
open Go.RowKit Go.Proofs.YtdokabaeddaipaaW.PrintWords Go.Proofs.YtdokabaeddaipaaW.PrintLast Go.Proofs.YtdokabaeddaipaaW.PrintMore Go.Proofs.Ytdokabaeddaipaa.Hand Go.Proofs.Ytdokabaeddaipaa.A Go.Proofs.Ytdokabaeddaipaa.P
set_option linter.unusedVariables false
set_option linter.unusedSimpArgs false
def w32 (x : Int) : Prop := 0 ≤ x ∧ x < 4294967296
def okW (l : List Int) : Prop := l.length = 8 ∧ ∀ x ∈ l, w32 x
theorem or_w32 (x y : Int) : w32 (Go.bits .or .u32 x y) := by
  have h := bits_within .or .u32 x y
  have h1 : IntKind.u32.min = 0 := rfl
  have h2 : IntKind.u32.max = 4294967295 := rfl
  rw [h1, h2] at h
  exact ⟨h.1, by omega⟩
theorem okW_get {l : List Int} (h : okW l) {q : Nat} (hq : q < 8) : w32 (l.getD q 0) := by
  have hl := h.1
  rw [List.getD_eq_getElem?_getD, List.getElem?_eq_getElem (by omega)]
  exact h.2 _ (List.getElem_mem _)
theorem bitW_pow (n : Int) : bitW n = ((2 ^ (n % 32).toNat : Nat) : Int) ∧ (2 : Nat) ^ (n % 32).toNat < 4294967296 := by
  have h2 : (2 : Nat) ^ (n % 32).toNat < 2 ^ 32 := Nat.pow_lt_pow_right (by omega) (by omega)
  have h3 : ((2 : Int) ^ (n % 32).toNat) = ((2 ^ (n % 32).toNat : Nat) : Int) := by push_cast; rfl
  refine ⟨?_, by omega⟩
  unfold bitW
  rw [h3]
  obtain ⟨p, hp⟩ : ∃ p : Nat, p = 2 ^ (n % 32).toNat := ⟨_, rfl⟩
  rw [← hp] at h2 ⊢
  omega
theorem and_pow (x j : Nat) : (((x &&& 2 ^ j : Nat) : Int) == 0) = !x.testBit j := by
  cases h : x.testBit j with
  | false =>
    have : x &&& 2 ^ j = 0 := by
      apply Nat.eq_of_testBit_eq
      intro i
      rw [Nat.testBit_and, Nat.testBit_two_pow, Nat.zero_testBit]
      by_cases e : j = i
      · subst e; rw [h]; rfl
      · rw [decide_eq_false e, Bool.and_false]
    rw [this]; rfl
  | true =>
    have : x &&& 2 ^ j ≠ 0 := by
      intro h0
      have h1 := congrArg (fun y => Nat.testBit y j) h0
      simp only [Nat.testBit_and, Nat.testBit_two_pow, Nat.zero_testBit, h] at h1
      simp at h1
    simp; omega
theorem bitW_range (n : Int) : 0 ≤ bitW n ∧ bitW n < 4294967296 := by
  obtain ⟨hb, hb2⟩ := bitW_pow n
  obtain ⟨p, hp⟩ : ∃ p : Nat, p = 2 ^ (n % 32).toNat := ⟨_, rfl⟩
  rw [← hp] at hb hb2
  omega
theorem hasL_test {l : List Int} (h : okW l) {n : Int} (h0 : 0 ≤ n) (h1 : n < 256) : hasL l n = (l.getD (n / 32).toNat 0).toNat.testBit (n % 32).toNat := by
  have hw := okW_get h (q := (n / 32).toNat) (by omega)
  obtain ⟨hb, hb2⟩ := bitW_pow n
  unfold hasL
  rw [u32_and _ _ hw.1 hw.2 (bitW_range n).1 (bitW_range n).2, hb, Int.toNat_natCast, and_pow, Bool.not_not]
theorem orL_len {la lb : List Int} (ha : okW la) (hb : okW lb) : (orL la lb).length = 8 := by
  have := ha.1; have := hb.1
  simp [orL]; omega
theorem orL_get {la lb : List Int} (ha : okW la) (hb : okW lb) {q : Nat} (hq : q < 8) : (orL la lb).getD q 0 = Go.bits .or .u32 (la.getD q 0) (lb.getD q 0) := by
  have := ha.1; have := hb.1
  rw [List.getD_eq_getElem?_getD, List.getD_eq_getElem?_getD, List.getD_eq_getElem?_getD]
  unfold orL
  rw [List.getElem?_eq_getElem (by simp; omega), List.getElem?_eq_getElem (by omega : q < la.length), List.getElem?_eq_getElem (by omega : q < lb.length)]
  simp
theorem orL_ok {la lb : List Int} (ha : okW la) (hb : okW lb) : okW (orL la lb) := by
  refine ⟨orL_len ha hb, fun x hx => ?_⟩
  obtain ⟨i, hi, rfl⟩ := List.getElem_of_mem hx
  simp only [orL, List.getElem_zipWith]
  exact or_w32 _ _
theorem hasL_or {la lb : List Int} (ha : okW la) (hb : okW lb) {n : Int} (h0 : 0 ≤ n) (h1 : n < 256) : hasL (orL la lb) n = (hasL la n || hasL lb n) := by
  have hwa := okW_get ha (q := (n / 32).toNat) (by omega)
  have hwb := okW_get hb (q := (n / 32).toNat) (by omega)
  rw [hasL_test (orL_ok ha hb) h0 h1, hasL_test ha h0 h1, hasL_test hb h0 h1, orL_get ha hb (by omega), u32_or _ _ hwa.1 hwa.2 hwb.1 hwb.2, Int.toNat_natCast, Nat.testBit_or]
theorem setW_ok {ws : List Int} (h : okW ws) (n : Int) : okW (setW ws n) := by
  refine ⟨by rw [setW_length]; exact h.1, fun x hx => ?_⟩
  unfold setW at hx
  rcases List.mem_or_eq_of_mem_set hx with h' | rfl
  · exact h.2 x h'
  · exact or_w32 _ _
theorem hasL_set {ws : List Int} (h : okW ws) {n m : Int} (h0 : 0 ≤ n) (h1 : n < 256) (g0 : 0 ≤ m) (g1 : m < 256) : hasL (setW ws n) m = (hasL ws m || m == n) := by
  have hw := okW_get h (q := (n / 32).toNat) (by omega)
  have hl := h.1
  obtain ⟨hb, hb2⟩ := bitW_pow n
  rw [hasL_test (setW_ok h n) g0 g1, hasL_test h g0 g1]
  unfold setW
  rw [List.getD_eq_getElem?_getD, List.getElem?_set]
  by_cases hq : (n / 32).toNat = (m / 32).toNat
  · rw [if_pos hq, if_pos (by omega)]
    simp only [Option.getD_some]
    rw [u32_or _ _ hw.1 hw.2 (bitW_range n).1 (bitW_range n).2, hb, Int.toNat_natCast, Int.toNat_natCast, Nat.testBit_or, hq, Nat.testBit_two_pow]
    congr 1
    by_cases e : m = n
    · subst e; simp
    · rw [show (m == n) = false from beq_eq_false_iff_ne.2 e]
      simp
      omega
  · rw [if_neg hq, List.getD_eq_getElem?_getD]
    rw [show (m == n) = false from beq_eq_false_iff_ne.2 (fun e => hq (by rw [e])), Bool.or_false]
theorem setS_ok {ws : List Int} (h : okW ws) (s : ByteArray) : ∀ k, okW (setS ws s k)
  | 0 => h
  | k + 1 => setW_ok (setS_ok h s k) _
theorem setS_mono {ws : List Int} (h : okW ws) (s : ByteArray) {m : Int} (g0 : 0 ≤ m) (g1 : m < 256) (hm : hasL ws m = true) : ∀ k, hasL (setS ws s k) m = true
  | 0 => hm
  | k + 1 => by
    rw [setS, hasL_set (setS_ok h s k) (bitn_range s k).1 (bitn_range s k).2 g0 g1, setS_mono h s g0 g1 hm k]
    rfl
theorem setS_has {ws : List Int} (h : okW ws) (s : ByteArray) : ∀ (k j : Nat), j < k → hasL (setS ws s k) (bitn s j) = true
  | 0, j, hj => absurd hj (Nat.not_lt_zero j)
  | k + 1, j, hj => by
    rw [setS, hasL_set (setS_ok h s k) (bitn_range s k).1 (bitn_range s k).2 (bitn_range s j).1 (bitn_range s j).2]
    by_cases e : j = k
    · subst e; simp
    · rw [setS_has h s k j (by omega)]; rfl
theorem setL_ok : ∀ (l : List ByteArray) {ws : List Int}, okW ws → okW (setL ws l)
  | [], _, h => h
  | s :: l, ws, h => setL_ok l (setS_ok h s 3)
theorem setL_mono : ∀ (l : List ByteArray) {ws : List Int}, okW ws → ∀ {m : Int}, 0 ≤ m → m < 256 → hasL ws m = true → hasL (setL ws l) m = true
  | [], _, _, _, _, _, hm => hm
  | s :: l, ws, h, m, g0, g1, hm => setL_mono l (setS_ok h s 3) g0 g1 (setS_mono h s g0 g1 hm 3)
theorem setL_has : ∀ (l : List ByteArray) {ws : List Int}, okW ws → ∀ s ∈ l, ∀ j, j < 3 → hasL (setL ws l) (bitn s j) = true
  | t :: l, ws, h, s, hs, j, hj => by
    rcases List.mem_cons.1 hs with rfl | hs
    · exact setL_mono l (setS_ok h s 3) (bitn_range s j).1 (bitn_range s j).2 (setS_has h s 3 j hj)
    · exact setL_has l (setS_ok h t 3) s hs j hj
theorem zero_ok : okW [(0 : Int), (0 : Int), (0 : Int), (0 : Int), (0 : Int), (0 : Int), (0 : Int), (0 : Int)] := by
  refine ⟨rfl, fun x hx => ?_⟩
  have : x = 0 := by simpa using hx
  subst this
  exact ⟨by omega, by omega⟩
theorem bloom_ok (l : List ByteArray) : okW (bloomL l) := setL_ok l zero_ok
theorem bloom_eta (l : List ByteArray) : [(bloomL l).getD 0 0, (bloomL l).getD 1 0, (bloomL l).getD 2 0, (bloomL l).getD 3 0, (bloomL l).getD 4 0, (bloomL l).getD 5 0, (bloomL l).getD 6 0, (bloomL l).getD 7 0] = bloomL l := (list8 (bloom_ok l).1).symm
theorem hasZ_of {l : List Int} {s : ByteArray} (h : ∀ j, j < 3 → hasL l (bitn s j) = true) : hasZ l s = true := by
  unfold hasZ
  rw [h 0 (by omega), h 1 (by omega), h 2 (by omega)]; rfl
theorem hasZ_to {l : List Int} {s : ByteArray} (h : hasZ l s = true) : ∀ j, j < 3 → hasL l (bitn s j) = true := by
  unfold hasZ at h
  simp only [Bool.and_eq_true] at h
  intro j hj
  obtain rfl | rfl | rfl : j = 0 ∨ j = 1 ∨ j = 2 := by omega
  · exact h.1
  · exact h.2.1
  · exact h.2.2
theorem zero_has {s : ByteArray} : hasZ [(0 : Int), (0 : Int), (0 : Int), (0 : Int), (0 : Int), (0 : Int), (0 : Int), (0 : Int)] s = false := by
  unfold hasZ
  rw [hasL_test zero_ok (bitn_range s 0).1 (bitn_range s 0).2]
  have h : ∀ q, ([(0 : Int), (0 : Int), (0 : Int), (0 : Int), (0 : Int), (0 : Int), (0 : Int), (0 : Int)] : List Int).getD q 0 = 0 := by
    intro q
    rw [List.getD_eq_getElem?_getD]
    rcases Nat.lt_or_ge q 8 with hq | hq
    · obtain rfl | rfl | rfl | rfl | rfl | rfl | rfl | rfl : q = 0 ∨ q = 1 ∨ q = 2 ∨ q = 3 ∨ q = 4 ∨ q = 5 ∨ q = 6 ∨ q = 7 := by omega
      all_goals rfl
    · rw [List.getElem?_eq_none (by simpa using hq)]; rfl
  rw [h]
  simp
theorem wds_one (t v : Int) (l : List ByteArray) : wds (oneT t v l) = bloomL l := bloom_eta l
theorem zeroZ_eq {z : T13} (h : zeroZ z = true) : z = zeroT := by
  obtain ⟨x0, x1, x2, x3, x4, x5, x6, x7, x8, x9, x10, x11, x12⟩ := z
  unfold zeroZ zeroB at h
  simp only [Bool.and_eq_true, beq_iff_eq] at h
  obtain ⟨rfl, rfl, rfl, rfl, rfl, rfl, rfl, rfl, rfl, rfl, rfl, rfl, rfl⟩ := h
  rfl
theorem wds_join {a b : T13} (ha : zeroZ a = false) (hb : zeroZ b = false) : wds (joinT a b) = orL (wds a) (wds b) := by
  unfold joinT
  rw [ha, hb]
  rfl
theorem has_join {a b : T13} (ha : okW (wds a)) (hb : okW (wds b)) {s : ByteArray} (h : hasT a s = true ∨ hasT b s = true) : hasT (joinT a b) s = true := by
  cases za : zeroZ a with
  | true =>
    have e : joinT a b = b := by unfold joinT; rw [za, if_pos rfl]
    rw [e]
    rcases h with h | h
    · rw [zeroZ_eq za] at h
      have : hasT zeroT s = false := zero_has
      rw [this] at h; cases h
    · exact h
  | false =>
    cases zb : zeroZ b with
    | true =>
      have e : joinT a b = a := by unfold joinT; rw [za, zb]; rfl
      rw [e]
      rcases h with h | h
      · exact h
      · rw [zeroZ_eq zb] at h
        have : hasT zeroT s = false := zero_has
        rw [this] at h; cases h
    | false =>
      unfold hasT
      rw [wds_join za zb]
      refine hasZ_of (fun j hj => ?_)
      rw [hasL_or ha hb (bitn_range s j).1 (bitn_range s j).2]
      rcases h with h | h
      · rw [hasZ_to h j hj]; rfl
      · rw [hasZ_to h j hj, Bool.or_true]
theorem join_okW {a b : T13} (ha : okW (wds a)) (hb : okW (wds b)) : okW (wds (joinT a b)) := by
  cases za : zeroZ a with
  | true =>
    have e : joinT a b = b := by unfold joinT; rw [za, if_pos rfl]
    rw [e]; exact hb
  | false =>
    cases zb : zeroZ b with
    | true =>
      have e : joinT a b = a := by unfold joinT; rw [za, zb]; rfl
      rw [e]; exact ha
    | false => rw [wds_join za zb]; exact orL_ok ha hb
/-- What a valid zone with elements keeps. -/
structure Val (z : T13) : Prop where
  c0 : 1 ≤ z.1
  c1 : z.1 ≤ 1152921504606846976
  t0 : 1 ≤ z.2.1
  t1 : z.2.1 ≤ z.2.2.1
  t2 : z.2.2.1 ≤ 1099511627776
  v0 : -1099511627776 ≤ z.2.2.2.1
  v1 : z.2.2.2.1 ≤ z.2.2.2.2.1
  v2 : z.2.2.2.2.1 ≤ 1099511627776
theorem chk_val {z : T13} (h : chk z = 0) : zeroZ z = true ∨ Val z := by
  unfold chk checkZ at h
  by_cases h1 : z.1 < 0 ∨ 1152921504606846976 < z.1
  · rw [if_pos h1] at h; cases h
  rw [if_neg h1] at h
  by_cases h2 : z.1 = 0
  · rw [if_pos h2] at h
    cases hz : zeroZ z with
    | true => exact .inl rfl
    | false => unfold zeroZ at hz; rw [hz] at h; cases h
  rw [if_neg h2] at h
  by_cases h3 : (1 ≤ z.2.1 ∧ z.2.1 ≤ 1099511627776) ∧ (1 ≤ z.2.2.1 ∧ z.2.2.1 ≤ 1099511627776)
  · rw [if_neg (fun hh => hh h3)] at h
    by_cases h4 : z.2.2.1 < z.2.1
    · rw [if_pos h4] at h; cases h
    rw [if_neg h4] at h
    by_cases h5 : (-1099511627776 ≤ z.2.2.2.1 ∧ z.2.2.2.1 ≤ 1099511627776) ∧ (-1099511627776 ≤ z.2.2.2.2.1 ∧ z.2.2.2.2.1 ≤ 1099511627776)
    · rw [if_neg (fun hh => hh h5)] at h
      by_cases h6 : z.2.2.2.2.1 < z.2.2.2.1
      · rw [if_pos h6] at h; cases h
      · exact .inr ⟨by omega, by omega, by omega, by omega, by omega, by omega, by omega, by omega⟩
    · rw [if_pos h5] at h; cases h
  · rw [if_pos h3] at h; cases h
theorem val_chk {z : T13} (h : Val z) : chk z = 0 := by
  obtain ⟨a1, a2, a3, a4, a5, a6, a7, a8⟩ := h
  unfold chk checkZ
  rw [if_neg (by omega), if_neg (by omega), if_neg (fun hh => hh ⟨⟨by omega, by omega⟩, by omega, by omega⟩), if_neg (by omega), if_neg (fun hh => hh ⟨⟨by omega, by omega⟩, by omega, by omega⟩), if_neg (by omega)]
theorem val_nz {z : T13} (h : Val z) : zeroZ z = false := by
  cases hz : zeroZ z with
  | false => rfl
  | true => rw [zeroZ_eq hz] at h; have := h.c0; simp [zeroT] at this
theorem val_join {a b : T13} (ha : Val a) (hb : Val b) : Val (joinT a b) := by
  have e : joinT a b = (mn (wrap64 (a.1 + b.1)) 1152921504606846976, mn a.2.1 b.2.1, mx a.2.2.1 b.2.2.1, mn a.2.2.2.1 b.2.2.2.1, mx a.2.2.2.2.1 b.2.2.2.2.1, Go.bits .or .u32 a.2.2.2.2.2.1 b.2.2.2.2.2.1, Go.bits .or .u32 a.2.2.2.2.2.2.1 b.2.2.2.2.2.2.1, Go.bits .or .u32 a.2.2.2.2.2.2.2.1 b.2.2.2.2.2.2.2.1, Go.bits .or .u32 a.2.2.2.2.2.2.2.2.1 b.2.2.2.2.2.2.2.2.1, Go.bits .or .u32 a.2.2.2.2.2.2.2.2.2.1 b.2.2.2.2.2.2.2.2.2.1, Go.bits .or .u32 a.2.2.2.2.2.2.2.2.2.2.1 b.2.2.2.2.2.2.2.2.2.2.1, Go.bits .or .u32 a.2.2.2.2.2.2.2.2.2.2.2.1 b.2.2.2.2.2.2.2.2.2.2.2.1, Go.bits .or .u32 a.2.2.2.2.2.2.2.2.2.2.2.2 b.2.2.2.2.2.2.2.2.2.2.2.2) := by
    unfold joinT
    rw [val_nz ha, val_nz hb]; rfl
  obtain ⟨a1, a2, a3, a4, a5, a6, a7, a8⟩ := ha
  obtain ⟨b1, b2, b3, b4, b5, b6, b7, b8⟩ := hb
  have hw : wrap64 (a.1 + b.1) = a.1 + b.1 := by unfold wrap64; omega
  rw [e, hw]
  refine ⟨?_, ?_, ?_, ?_, ?_, ?_, ?_, ?_⟩
  all_goals ((try simp only []); (try unfold mn); (try unfold mx))
  all_goals (repeat' split) <;> omega
theorem chk_join {a b : T13} (ha : chk a = 0) (hb : chk b = 0) : chk (joinT a b) = 0 := by
  rcases chk_val ha with za | va
  · have e : joinT a b = b := by unfold joinT; rw [za, if_pos rfl]
    rw [e]; exact hb
  · rcases chk_val hb with zb | vb
    · have e : joinT a b = a := by unfold joinT; rw [val_nz va, zb]; rfl
      rw [e]; exact ha
    · exact val_chk (val_join va vb)
theorem chk_zero : chk zeroT = 0 := by decide
theorem ok_parts {z : T13} {t v : Int} (h : okT z t v = true) : chk z = 0 ∧ (1 ≤ t ∧ t ≤ 1099511627776) ∧ (-1099511627776 ≤ v ∧ v ≤ 1099511627776) ∧ z.1 ≠ 1152921504606846976 := by
  unfold okT addOk at h
  simp only [Bool.and_eq_true, decide_eq_true_eq, Bool.not_eq_true', beq_eq_false_iff_ne] at h
  exact ⟨h.1, h.2.1, h.2.2.1, h.2.2.2⟩
theorem one_val {t v : Int} (ht : 1 ≤ t ∧ t ≤ 1099511627776) (hv : -1099511627776 ≤ v ∧ v ≤ 1099511627776) (l : List ByteArray) : Val (oneT t v l) :=
  ⟨by simp [oneT], by simp [oneT], ht.1, Int.le_refl _, ht.2, hv.1, Int.le_refl _, hv.2⟩
theorem chk_add {z : T13} (hz : chk z = 0) (t v : Int) (l : List ByteArray) : chk (addT z t v l) = 0 := by
  unfold addT
  by_cases h : okT z t v = true
  · rw [if_pos h]
    obtain ⟨h1, h2, h3, h4⟩ := ok_parts h
    exact chk_join hz (val_chk (one_val h2 h3 l))
  · rw [if_neg h]; exact hz
theorem add_okW {z : T13} (hz : okW (wds z)) (t v : Int) (l : List ByteArray) : okW (wds (addT z t v l)) := by
  unfold addT
  by_cases h : okT z t v = true
  · rw [if_pos h]; exact join_okW hz (by rw [wds_one]; exact bloom_ok l)
  · rw [if_neg h]; exact hz
end Go.Proofs.Ytdokabaeddaipaa.K
