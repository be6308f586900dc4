/- Zones of elements, and probes: plain facts. No condition beyond those in the statements. -/
import Derived.Test.YtdokabaeddaipaaK2
import Derived.Lib.Strings
import Derived.Test.YtdokabaeddaipaaPx8
namespace Go.Proofs.Ytdokabaeddaipaa.K
open Go.RowKit Go.Proofs.YtdokabaeddaipaaW.PrintWords Go.Proofs.YtdokabaeddaipaaW.PrintLast Go.Proofs.YtdokabaeddaipaaW.PrintMore Go.Proofs.Ytdokabaeddaipaa.Hand Go.Proofs.Ytdokabaeddaipaa.A Go.Proofs.Ytdokabaeddaipaa.P
set_option linter.unusedVariables false
set_option linter.unusedSimpArgs false
theorem may_parts {z : T13} (hz : chk z = 0) {p0 p1 : Int} {p2 : Bool} {p3 p4 : Int} {l : List ByteArray} (h : mayT z p0 p1 p2 p3 p4 l = true) :
    z.1 ≠ 0 ∧ p0 < z.2.2.1 ∧ z.2.1 ≤ p1 ∧ (p2 = true → p3 ≤ z.2.2.2.2.1 ∧ z.2.2.2.1 ≤ p4) ∧ ∀ s ∈ l, hasT z s = true := by
  unfold mayT at h
  rw [if_pos hz] at h
  simp only [Bool.and_eq_true, Bool.not_eq_true', Bool.or_eq_false_iff, decide_eq_false_iff_not, List.all_eq_true] at h
  obtain ⟨⟨h1, h2, h3⟩, h4, h5⟩ := h
  refine ⟨h1, by omega, by omega, fun e => ?_, h5⟩
  subst e
  simp only [Bool.true_and, Bool.or_eq_false_iff, decide_eq_false_iff_not] at h4
  exact ⟨by omega, by omega⟩
theorem may_of {z : T13} {p0 p1 : Int} {p2 : Bool} {p3 p4 : Int} {l : List ByteArray} (h1 : z.1 ≠ 0) (h2 : p0 < z.2.2.1) (h3 : z.2.1 ≤ p1) (h4 : p2 = true → p3 ≤ z.2.2.2.2.1 ∧ z.2.2.2.1 ≤ p4) (h5 : ∀ s ∈ l, hasT z s = true) : mayT z p0 p1 p2 p3 p4 l = true := by
  unfold mayT
  by_cases hz : chk z = 0
  · rw [if_pos hz]
    simp only [Bool.and_eq_true, Bool.not_eq_true', Bool.or_eq_false_iff, decide_eq_false_iff_not, List.all_eq_true]
    refine ⟨⟨h1, by omega, by omega⟩, ?_, h5⟩
    cases p2 with
    | false => rfl
    | true =>
      obtain ⟨g1, g2⟩ := h4 rfl
      simp only [Bool.true_and, Bool.or_eq_false_iff, decide_eq_false_iff_not]
      exact ⟨by omega, by omega⟩
  · rw [if_neg hz]
theorem join_main {a b : T13} (ha : Val a) (hb : Val b) : (joinT a b).1 = mn (a.1 + b.1) 1152921504606846976 ∧ (joinT a b).2.1 = mn a.2.1 b.2.1 ∧ (joinT a b).2.2.1 = mx a.2.2.1 b.2.2.1 ∧ (joinT a b).2.2.2.1 = mn a.2.2.2.1 b.2.2.2.1 ∧ (joinT a b).2.2.2.2.1 = mx a.2.2.2.2.1 b.2.2.2.2.1 := by
  have h1 := ha.c0
  have h2 := ha.c1
  have h3 := hb.c0
  have h4 := hb.c1
  have hw : wrap64 (a.1 + b.1) = a.1 + b.1 := by unfold wrap64; omega
  unfold joinT
  rw [val_nz ha, val_nz hb, hw]
  exact ⟨rfl, rfl, rfl, rfl, rfl⟩
theorem mn_le (a b : Int) : mn a b ≤ a ∧ mn a b ≤ b := by unfold mn; split <;> omega
theorem mx_ge (a b : Int) : a ≤ mx a b ∧ b ≤ mx a b := by unfold mx; split <;> omega
/-- An element, and its time, value and strings, is within a zone. -/
structure Cov (z : T13) (t v : Int) (l : List ByteArray) : Prop where
  val : Val z
  t0 : z.2.1 ≤ t
  t1 : t ≤ z.2.2.1
  v0 : z.2.2.2.1 ≤ v
  v1 : v ≤ z.2.2.2.2.1
  has : ∀ s ∈ l, hasT z s = true
theorem cov_left {a b : T13} (ha : Val a) (hb : chk b = 0) (oa : okW (wds a)) (ob : okW (wds b)) {t v : Int} {l : List ByteArray} (h : Cov a t v l) : Cov (joinT a b) t v l := by
  rcases chk_val hb with zb | vb
  · have e : joinT a b = a := by unfold joinT; rw [val_nz ha, zb]; rfl
    rw [e]; exact h
  · obtain ⟨e1, e2, e3, e4, e5⟩ := join_main ha vb
    have m1 := mn_le a.2.1 b.2.1
    have m2 := mx_ge a.2.2.1 b.2.2.1
    have m3 := mn_le a.2.2.2.1 b.2.2.2.1
    have m4 := mx_ge a.2.2.2.2.1 b.2.2.2.2.1
    exact ⟨val_join ha vb, by rw [e2]; have := h.t0; omega, by rw [e3]; have := h.t1; omega, by rw [e4]; have := h.v0; omega, by rw [e5]; have := h.v1; omega, fun s hs => has_join oa ob (.inl (h.has s hs))⟩
theorem cov_right {a b : T13} (ha : chk a = 0) (hb : Val b) (oa : okW (wds a)) (ob : okW (wds b)) {t v : Int} {l : List ByteArray} (h : Cov b t v l) : Cov (joinT a b) t v l := by
  rcases chk_val ha with za | va
  · have e : joinT a b = b := by unfold joinT; rw [za, if_pos rfl]
    rw [e]; exact h
  · obtain ⟨e1, e2, e3, e4, e5⟩ := join_main va hb
    have m1 := mn_le a.2.1 b.2.1
    have m2 := mx_ge a.2.2.1 b.2.2.1
    have m3 := mn_le a.2.2.2.1 b.2.2.2.1
    have m4 := mx_ge a.2.2.2.2.1 b.2.2.2.2.1
    exact ⟨val_join va hb, by rw [e2]; have := h.t0; omega, by rw [e3]; have := h.t1; omega, by rw [e4]; have := h.v0; omega, by rw [e5]; have := h.v1; omega, fun s hs => has_join oa ob (.inr (h.has s hs))⟩
theorem cov_one {t v : Int} (ht : 1 ≤ t ∧ t ≤ 1099511627776) (hv : -1099511627776 ≤ v ∧ v ≤ 1099511627776) (l : List ByteArray) : Cov (oneT t v l) t v l :=
  ⟨one_val ht hv l, Int.le_refl _, Int.le_refl _, Int.le_refl _, Int.le_refl _, fun s hs => by
    unfold hasT; rw [wds_one]; exact hasZ_of (fun j hj => setL_has l zero_ok s hs j hj)⟩
theorem may_cov {z : T13} {t v : Int} {l : List ByteArray} (h : Cov z t v l) {p0 p1 : Int} {p2 : Bool} {p3 p4 : Int} {q : List ByteArray} (h1 : p0 < t) (h2 : t ≤ p1) (h3 : p2 = true → p3 ≤ v ∧ v ≤ p4) (h4 : ∀ s ∈ q, s ∈ l) : mayT z p0 p1 p2 p3 p4 q = true :=
  may_of (by have := h.val.c0; omega) (by have := h.t1; omega) (by have := h.t0; omega) (fun e => by have := h3 e; have := h.v0; have := h.v1; exact ⟨by omega, by omega⟩) (fun s hs => h.has s (h4 s hs))
theorem may_join {a b : T13} (ha : chk a = 0) (hb : chk b = 0) (oa : okW (wds a)) (ob : okW (wds b)) {p0 p1 : Int} {p2 : Bool} {p3 p4 : Int} {l : List ByteArray} (h : mayT a p0 p1 p2 p3 p4 l = true) : mayT (joinT a b) p0 p1 p2 p3 p4 l = true := by
  obtain ⟨h1, h2, h3, h4, h5⟩ := may_parts ha h
  rcases chk_val ha with za | va
  · exact absurd (by rw [zeroZ_eq za]; rfl) h1
  · rcases chk_val hb with zb | vb
    · have e : joinT a b = a := by unfold joinT; rw [val_nz va, zb]; rfl
      rw [e]; exact h
    · obtain ⟨e1, e2, e3, e4, e5⟩ := join_main va vb
      have m1 := mn_le a.2.1 b.2.1
      have m2 := mx_ge a.2.2.1 b.2.2.1
      have m3 := mn_le a.2.2.2.1 b.2.2.2.1
      have m4 := mx_ge a.2.2.2.2.1 b.2.2.2.2.1
      have hv := (val_join va vb).c0
      exact may_of (by omega) (by rw [e3]; omega) (by rw [e2]; omega) (fun e => by have := h4 e; rw [e4, e5]; exact ⟨by omega, by omega⟩) (fun s hs => has_join oa ob (.inl (h5 s hs)))
theorem may_add {a : T13} (ha : chk a = 0) (oa : okW (wds a)) (t v : Int) (q : List ByteArray) {p0 p1 : Int} {p2 : Bool} {p3 p4 : Int} {l : List ByteArray} (h : mayT a p0 p1 p2 p3 p4 l = true) : mayT (addT a t v q) p0 p1 p2 p3 p4 l = true := by
  unfold addT
  by_cases ho : okT a t v = true
  · rw [if_pos ho]
    obtain ⟨h1, h2, h3, h4⟩ := ok_parts ho
    exact may_join ha (val_chk (one_val h2 h3 q)) oa (by rw [wds_one]; exact bloom_ok q) h
  · rw [if_neg ho]; exact h
theorem may_mrg {a b : T13} (ha : chk a = 0) (hb : chk b = 0) (oa : okW (wds a)) (ob : okW (wds b)) {p0 p1 : Int} {p2 : Bool} {p3 p4 : Int} {l : List ByteArray} (h : mayT a p0 p1 p2 p3 p4 l = true) : mayT (mrgT a b) p0 p1 p2 p3 p4 l = true := by
  unfold mrgT
  rw [if_pos ⟨ha, hb⟩]
  exact may_join ha hb oa ob h
def elB (x : S40) : Bool := (decide (x.f2.length ≤ 8) && x.f2.all (fun s => decide (s.size ≤ 40))) && (decide (1 ≤ x.f0 ∧ x.f0 ≤ 1099511627776) && decide (-1099511627776 ≤ x.f1 ∧ x.f1 ≤ 1099511627776))
def fitsB (l : List S40) : Bool := l.all elB && decide (l.length ≤ 12)
theorem rdT_nat {l : List S40} {i : Nat} (h : i < l.length) : rd_T40 l (i : Int) = l[i] := by simp [rd_T40, List.getD_eq_getElem?_getD, h]
theorem fits_is (l : List S40) (hlen : l.length ≤ 9223372036854775807) (k : Nat) (hk : l.length < k) : lookoutlaw16_fits.f k l = some (fitsB l) := by
  have key : ∀ (d k i : Nat), i + d = l.length → d < k → lookoutlaw16_fits.l0 k l l (l.length : Int) (i : Int) = some ((l.drop i).all elB && decide (l.length ≤ 12)) := by
    intro d
    induction d with
    | zero =>
      intro k i hi hk
      obtain ⟨k, rfl⟩ : ∃ m, k = m + 1 := ⟨k - 1, by omega⟩
      rw [lookoutlaw16_fits.l0, if_neg (by omega), List.drop_eq_nil_of_le (by omega)]
      simp only [List.all_nil, Bool.true_and, Option.some.injEq]
      rw [Bool.eq_iff_iff]; simp; omega
    | succ d ih =>
      intro k i hi hk
      obtain ⟨k, rfl⟩ : ∃ m, k = m + 1 := ⟨k - 1, by omega⟩
      have hlt : i < l.length := by omega
      rw [lookoutlaw16_fits.l0, if_pos (by omega), if_pos (by omega), if_pos (by omega), rdT_nat hlt, short_is, List.drop_eq_getElem_cons hlt]
      simp only [Option.bind_some, List.all_cons]
      rw [show wrap64 ((i : Int) + 1) = ((i + 1 : Nat) : Int) by unfold wrap64; omega, ih k (i + 1) (by omega) (by omega)]
      unfold elB
      cases (decide (l[i].f2.length ≤ 8) && l[i].f2.all (fun s => decide (s.size ≤ 40))) with
      | false => rfl
      | true =>
        rw [if_pos rfl]
        by_cases h1 : l[i].f0 < 1
        · rw [if_pos h1, decide_eq_false (show ¬ (1 ≤ l[i].f0 ∧ l[i].f0 ≤ 1099511627776) by omega)]; rfl
        rw [if_neg h1]
        by_cases h2 : l[i].f0 > 1099511627776
        · rw [if_pos h2, decide_eq_false (show ¬ (1 ≤ l[i].f0 ∧ l[i].f0 ≤ 1099511627776) by omega)]; rfl
        rw [if_neg h2, decide_eq_true (show (1 ≤ l[i].f0 ∧ l[i].f0 ≤ 1099511627776) by omega)]
        by_cases h3 : l[i].f1 < -1099511627776
        · rw [if_pos h3, decide_eq_false (show ¬ (-1099511627776 ≤ l[i].f1 ∧ l[i].f1 ≤ 1099511627776) by omega)]; rfl
        rw [if_neg h3]
        by_cases h4 : l[i].f1 > 1099511627776
        · rw [if_pos h4, decide_eq_false (show ¬ (-1099511627776 ≤ l[i].f1 ∧ l[i].f1 ≤ 1099511627776) by omega)]; rfl
        rw [if_neg h4, decide_eq_true (show (-1099511627776 ≤ l[i].f1 ∧ l[i].f1 ≤ 1099511627776) by omega)]
        rfl
  exact key l.length k 0 (by omega) hk
theorem toList_inj {s t : ByteArray} (h : s.toList = t.toList) : s = t := by
  rw [Go.Lib.toList_data, Go.Lib.toList_data] at h
  obtain ⟨⟨a⟩⟩ := s
  obtain ⟨⟨b⟩⟩ := t
  simp at h
  subst h; rfl
/-- Whether a string is in a list. -/
def memB (a : ByteArray) (l : List ByteArray) : Bool := l.any (fun t => decide (a.toList = t.toList))
theorem memB_mem {a : ByteArray} {l : List ByteArray} (h : memB a l = true) : a ∈ l := by
  unfold memB at h
  simp only [List.any_eq_true, decide_eq_true_eq] at h
  obtain ⟨t, ht, e⟩ := h
  rw [toList_inj e]; exact ht
theorem contains_is (l : List ByteArray) (a : ByteArray) (hlen : l.length ≤ 9223372036854775807) (k : Nat) (hk : l.length < k) : slices_Contains_string_string.f k l a = some (memB a l) := by
  have key : ∀ (d k i : Nat), i + d = l.length → d < k → ∃ r, slices_Index_string_string.l0 k l a (l.length : Int) (i : Int) = some r ∧ decide (r ≥ 0) = memB a (l.drop i) := by
    intro d
    induction d with
    | zero =>
      intro k i hi hk
      obtain ⟨k, rfl⟩ : ∃ m, k = m + 1 := ⟨k - 1, by omega⟩
      exact ⟨-1, by rw [slices_Index_string_string.l0, if_neg (by omega)], by rw [List.drop_eq_nil_of_le (by omega)]; rfl⟩
    | succ d ih =>
      intro k i hi hk
      obtain ⟨k, rfl⟩ : ∃ m, k = m + 1 := ⟨k - 1, by omega⟩
      have hlt : i < l.length := by omega
      obtain ⟨r, h1, h2⟩ := ih k (i + 1) (by omega) (by omega)
      rw [slices_Index_string_string.l0, if_pos (by omega), if_pos (by omega), if_pos (by omega), rdOf_nat hlt, List.drop_eq_getElem_cons hlt]
      by_cases e : a.toList = l[i].toList
      · rw [if_pos e]
        exact ⟨_, rfl, by rw [memB, List.any_cons, decide_eq_true e, Bool.true_or]; exact decide_eq_true (by omega)⟩
      · rw [if_neg e, show wrap64 ((i : Int) + 1) = ((i + 1 : Nat) : Int) by unfold wrap64; omega, h1]
        refine ⟨r, rfl, ?_⟩
        rw [h2, memB, memB, List.any_cons, decide_eq_false e, Bool.false_or]
  obtain ⟨r, h1, h2⟩ := key l.length k 0 (by omega) hk
  unfold slices_Contains_string_string.f slices_Index_string_string.f
  rw [show ((0 : Nat) : Int) = 0 from rfl] at h1
  rw [h1]
  simp only [Option.bind_some]
  rw [h2, List.drop_zero]
def satB (t v : Int) (q : List ByteArray) (p0 p1 : Int) (p2 : Bool) (p3 p4 : Int) (l : List ByteArray) : Bool :=
  l.all (fun s => memB s q) && (decide (p0 < t) && (decide (t ≤ p1) && (!p2 || (decide (p3 ≤ v) && decide (v ≤ p4)))))
theorem sat_is (t v : Int) (q : List ByteArray) (p0 p1 : Int) (p2 : Bool) (p3 p4 : Int) (l : List ByteArray) (hq : q.length ≤ 9223372036854775807) (hlen : l.length ≤ 9223372036854775807) (k : Nat) (hk : l.length + q.length + 1 < k) :
    lookoutlaw16_satisfies.f k t v q p0 p1 p2 p3 p4 l = some (satB t v q p0 p1 p2 p3 p4 l) := by
  have key : ∀ (d k i : Nat), i + d = l.length → d + q.length + 1 < k → lookoutlaw16_satisfies.l0 k l (l.length : Int) (i : Int) t v q p0 p1 p2 p3 p4 l = some ((l.drop i).all (fun s => memB s q) && (decide (p0 < t) && (decide (t ≤ p1) && (!p2 || (decide (p3 ≤ v) && decide (v ≤ p4)))))) := by
    intro d
    induction d with
    | zero =>
      intro k i hi hk
      obtain ⟨k, rfl⟩ : ∃ m, k = m + 1 := ⟨k - 1, by omega⟩
      rw [lookoutlaw16_satisfies.l0, if_neg (by omega), List.drop_eq_nil_of_le (by omega)]
      by_cases h1 : p0 < t
      · rw [if_pos h1]
        by_cases h2 : t ≤ p1
        · rw [if_pos h2]
          cases p2 with
          | false => simp [h1, h2]
          | true =>
            rw [if_pos rfl]
            by_cases h3 : p3 ≤ v
            · rw [if_pos h3]; simp [h1, h2, h3]
            · rw [if_neg h3]; simp [h1, h2, h3]
        · rw [if_neg h2]; simp [h2]
      · rw [if_neg h1]; simp [h1]
    | succ d ih =>
      intro k i hi hk
      obtain ⟨k, rfl⟩ : ∃ m, k = m + 1 := ⟨k - 1, by omega⟩
      have hlt : i < l.length := by omega
      rw [lookoutlaw16_satisfies.l0, if_pos (by omega), if_pos (by omega), if_pos (by omega), rdOf_nat hlt, contains_is q _ hq k (by omega), List.drop_eq_getElem_cons hlt]
      simp only [Option.bind_some, List.all_cons]
      cases memB l[i] q with
      | false => rfl
      | true =>
        rw [if_pos rfl, show wrap64 ((i : Int) + 1) = ((i + 1 : Nat) : Int) by unfold wrap64; omega, ih k (i + 1) (by omega) (by omega)]
        rfl
  exact key l.length k 0 (by omega) hk
theorem el_parts {x : S40} (h : elB x = true) : x.f2.length ≤ 8 ∧ K.fits x.f2 ∧ (1 ≤ x.f0 ∧ x.f0 ≤ 1099511627776) ∧ (-1099511627776 ≤ x.f1 ∧ x.f1 ≤ 1099511627776) := by
  unfold elB at h
  simp only [Bool.and_eq_true, decide_eq_true_eq, List.all_eq_true] at h
  exact ⟨h.1.1, fun s hs => by have := h.1.2 s hs; omega, h.2.1, h.2.2⟩
/-- A zone of n elements. -/
structure Zn (z : T13) (n : Int) : Prop where
  chk : chk z = 0
  ok : okW (wds z)
  cnt : z.1 = n
theorem zn_zero : Zn zeroT 0 := ⟨chk_zero, zero_ok, rfl⟩
theorem zn_ok {z : T13} {n : Int} (hz : Zn z n) (hn : n < 1152921504606846976) {t v : Int} (ht : 1 ≤ t ∧ t ≤ 1099511627776) (hv : -1099511627776 ≤ v ∧ v ≤ 1099511627776) : okT z t v = true := by
  unfold okT addOk
  have h1 := hz.chk
  have h2 := hz.cnt
  unfold K.chk at h1
  rw [h1]
  simp only [decide_true, Bool.true_and, decide_eq_true ht, decide_eq_true hv]
  simp; omega
theorem zn_add {z : T13} {n : Int} (hz : Zn z n) (h0 : 0 ≤ n) (hn : n < 1152921504606846976) {t v : Int} (ht : 1 ≤ t ∧ t ≤ 1099511627776) (hv : -1099511627776 ≤ v ∧ v ≤ 1099511627776) (l : List ByteArray) :
    Zn (addT z t v l) (n + 1) ∧ Cov (addT z t v l) t v l ∧ ∀ t' v' l', Cov z t' v' l' → Cov (addT z t v l) t' v' l' := by
  have hok := zn_ok hz hn ht hv
  have ho1 : okW (wds (oneT t v l)) := by rw [wds_one]; exact bloom_ok l
  have e : addT z t v l = joinT z (oneT t v l) := by unfold addT; rw [if_pos hok]
  have hv1 := one_val ht hv l
  refine ⟨⟨chk_add hz.chk t v l, add_okW hz.ok t v l, ?_⟩, ?_, fun t' v' l' hc => ?_⟩
  · rw [e]
    rcases chk_val hz.chk with zz | vz
    · have e2 : joinT z (oneT t v l) = oneT t v l := by unfold joinT; rw [zz, if_pos rfl]
      rw [e2]
      have := hz.cnt
      rw [zeroZ_eq zz] at this
      have h3 : (0 : Int) = n := this
      show (1 : Int) = n + 1
      omega
    · rw [(join_main vz hv1).1, hz.cnt]
      show mn (n + 1) 1152921504606846976 = n + 1
      unfold mn; split <;> omega
  · rw [e]; exact cov_right hz.chk hv1 hz.ok ho1 (cov_one ht hv l)
  · rw [e]; exact cov_left hc.val (val_chk hv1) hz.ok ho1 hc
theorem w32_wf {x : Int} (h : (Lit.int .u32 x).wf = true) : w32 x := by
  have h1 : IntKind.u32.min = 0 := rfl
  have h2 : IntKind.u32.max = 4294967295 := rfl
  simp [Lit.wf, h1, h2] at h
  exact ⟨h.1, by omega⟩
theorem okW_wf {x0 x1 x2 x3 x4 x5 x6 x7 : Int} (h0 : (Lit.int .u32 x0).wf = true) (h1 : (Lit.int .u32 x1).wf = true) (h2 : (Lit.int .u32 x2).wf = true) (h3 : (Lit.int .u32 x3).wf = true) (h4 : (Lit.int .u32 x4).wf = true) (h5 : (Lit.int .u32 x5).wf = true) (h6 : (Lit.int .u32 x6).wf = true) (h7 : (Lit.int .u32 x7).wf = true) : okW [x0, x1, x2, x3, x4, x5, x6, x7] := by
  refine ⟨rfl, fun x hx => ?_⟩
  simp only [List.mem_cons, List.not_mem_nil, or_false] at hx
  rcases hx with rfl | rfl | rfl | rfl | rfl | rfl | rfl | rfl
  all_goals (apply w32_wf; assumption)
end Go.Proofs.Ytdokabaeddaipaa.K
