/- Plain facts on sketches: what Check, insert, Add of the kmv chapter and of its reference answer, and the chapter's example. No condition beyond those in the statements. -/
import Derived.Test.YthblifjeecdhcaaK1
import Derived.Test.YthblifjeecdhcaaHIns
import Derived.Test.YthblifjeecdhcaaHEst
import Derived.Test.YthblifjeecdhcaaCloneInt
import Derived.Test.YthblifjeecdhcaaPx9
import Derived.Test.YthblifjeecdhcaaPx2
import Derived.Test.YthblifjeecdhcaaPx13
import Derived.Test.YthblifjeecdhcaaPx19
namespace Go.Proofs.Ythblifjeecdhcaa.KB
open Go.RowKit Go.Proofs.Ythblifjeecdhcaa.A Go.Proofs.Ythblifjeecdhcaa.P Go.Proofs.Ythblifjeecdhcaa.Hand Go.Proofs.YthblifjeecdhcaaW.PrintWords Go.Proofs.YthblifjeecdhcaaW.PrintLast Go.Proofs.YthblifjeecdhcaaW.PrintMore
set_option linter.unusedVariables false
set_option linter.unusedSimpArgs false
set_option maxRecDepth 10000
theorem check_l0 (l : List Int) (hl : l.length ≤ 17592186043904) : ∀ (d i : Nat) (q : Int), i + d = l.length → Ev (fun k => kmv_Check.l0 k q l (l.length : Int) (i : Int)) (if ckS q (l.drop i) = true then 0 else 1) := by
  intro d
  induction d with
  | zero => intro i q h; rw [List.drop_eq_nil_of_le (by omega), ckS, if_pos rfl]; exact Ev.step (fun k => by rw [kmv_Check.l0, if_neg (by omega)]) (Ev.now _)
  | succ d ih =>
    intro i q h
    have hi : i < l.length := by omega
    rw [dropI hi, ckS]
    have e := rdI hi
    by_cases h1 : l[i] ≤ q
    · rw [if_pos h1, if_neg (by decide)]
      exact Ev.step (fun k => by rw [kmv_Check.l0, if_pos (by omega), if_pos (by omega), if_pos (by omega), e, if_pos h1]) (Ev.now _)
    · rw [if_neg h1]
      by_cases h2 : 4294967296 ≤ l[i]
      · rw [if_pos h2, if_neg (by decide)]
        exact Ev.step (fun k => by rw [kmv_Check.l0, if_pos (by omega), if_pos (by omega), if_pos (by omega), e, if_neg h1, if_pos h2]) (Ev.now _)
      · rw [if_neg h2]
        exact Ev.step (fun k => by rw [kmv_Check.l0, if_pos (by omega), if_pos (by omega), if_pos (by omega), e, if_neg h1, if_neg h2, w1 (by omega)]) (ih (i + 1) l[i] (by omega))
theorem check_ev (K C : Int) (l : List Int) (hl : l.length ≤ 17592186043904) : Ev (fun k => kmv_Check.f k K C l) (CK K C l) := by
  have bad : ∀ (p : Prop), p → ¬ OKK K C l → Ev (fun k => kmv_Check.j0 k true K C l) (CK K C l) := fun p _ h => by
    unfold CK; rw [if_neg h]; exact Ev.step (fun k => by rw [kmv_Check.j0, if_pos rfl]) (Ev.now _)
  by_cases h1 : K < 1
  · exact Ev.congr (fun k => by rw [kmv_Check.f, if_pos h1]) (bad _ trivial (fun h => by have := h.1; omega))
  · by_cases h2 : K > 1000
    · exact Ev.congr (fun k => by rw [kmv_Check.f, if_neg h1, if_pos h2]) (bad _ trivial (fun h => by have := h.2.1; omega))
    · by_cases h3 : C < 0
      · exact Ev.congr (fun k => by rw [kmv_Check.f, if_neg h1, if_neg h2, if_pos h3]) (bad _ trivial (fun h => by have := h.2.2.1; omega))
      · by_cases h4 : C > 1152921504606846976
        · exact Ev.congr (fun k => by rw [kmv_Check.f, if_neg h1, if_neg h2, if_neg h3, decide_eq_true h4]) (bad _ trivial (fun h => by have := h.2.2.2.1; omega))
        · have bad1 : ¬ OKK K C l → Ev (fun k => kmv_Check.j1 k true K C l) (CK K C l) := fun h => by
            unfold CK; rw [if_neg h]; exact Ev.step (fun k => by rw [kmv_Check.j1, if_pos rfl]) (Ev.now _)
          refine Ev.congr (f := fun k => kmv_Check.j0 k false K C l) (fun k => by rw [kmv_Check.f, if_neg h1, if_neg h2, if_neg h3, decide_eq_false h4]) ?_
          by_cases h5 : (l.length : Int) > K
          · exact Ev.step (fun k => by rw [kmv_Check.j0, if_neg (by decide), if_pos h5]) (bad1 (fun h => by have := h.2.2.2.2.1; omega))
          · by_cases h6 : (l.length : Int) > C
            · exact Ev.step (fun k => by rw [kmv_Check.j0, if_neg (by decide), if_neg h5, if_pos h6]) (bad1 (fun h => by have := h.2.2.2.2.2.1; omega))
            · have good : (l.length = 0 → C = 0) → Ev (fun k => kmv_Check.j1 k false K C l) (CK K C l) := fun h0 => by
                have e : CK K C l = if ckS (-1) (l.drop 0) = true then 0 else 1 := by
                  unfold CK
                  rw [List.drop_zero]
                  by_cases h : ckS (-1) l = true
                  · rw [if_pos h, if_pos (show OKK K C l from ⟨by omega, by omega, by omega, by omega, by omega, by omega, h0, h⟩)]
                  · rw [if_neg h, if_neg (show ¬ OKK K C l from fun h' => h h'.2.2.2.2.2.2.2)]
                rw [e]
                exact Ev.step (fun k => by rw [kmv_Check.j1, if_neg (by decide)]; rfl) (check_l0 l hl l.length 0 (-1) (by omega))
              by_cases h7 : (l.length : Int) = 0
              · by_cases h8 : C > 0
                · exact Ev.step (fun k => by rw [kmv_Check.j0, if_neg (by decide), if_neg h5, if_neg h6, if_pos h7, decide_eq_true h8]) (bad1 (fun h => by have := h.2.2.2.2.2.2.1 (by omega); omega))
                · exact Ev.step (fun k => by rw [kmv_Check.j0, if_neg (by decide), if_neg h5, if_neg h6, if_pos h7, decide_eq_false h8]) (good (fun _ => by omega))
              · exact Ev.step (fun k => by rw [kmv_Check.j0, if_neg (by decide), if_neg h5, if_neg h6, if_neg h7]) (good (fun h => by omega))
/-! ## insert -/
theorem less_is (a b : Int) : cmp_Less_int.f a b = some (decide (a < b)) := by simp [cmp_Less_int.f, cmp_isNaN_int.f]
/-- Where a search may end. -/
structure AT (l : List Int) (x : Int) (i : Nat) (b : Bool) : Prop where
  le : i ≤ l.length
  lo : ∀ t, (h : t < l.length) → t < i → l[t] < x
  hi : ∀ t, (h : t < l.length) → i ≤ t → b = false → x < l[t]
  yes : b = true → x ∈ l
theorem binary_l0 (l : List Int) (x : Int) (hl : l.length ≤ 17592186043904) (hv : SO l) : ∀ (d i j : Nat), j - i ≤ d → i ≤ j → j ≤ l.length → (∀ t, (h : t < l.length) → t < i → l[t] < x) → (∀ t, (h : t < l.length) → j ≤ t → x ≤ l[t]) →
    ∃ m b, AT l x m b ∧ Ev (fun k => slices_BinarySearch_int_int.l0 k l x (l.length : Int) (i : Int) (j : Int)) ((m : Int), b) := by
  have fin : ∀ i : Nat, i ≤ l.length → (∀ t, (h : t < l.length) → t < i → l[t] < x) → (∀ t, (h : t < l.length) → i ≤ t → x ≤ l[t]) → ∃ m b, AT l x m b ∧ Ev (fun k => slices_BinarySearch_int_int.l0 k l x (l.length : Int) (i : Int) (i : Int)) ((m : Int), b) := by
    intro i hi h1 h2
    by_cases hlt : i < l.length
    · have e := rdI hlt
      by_cases hx : l[i] = x
      · exact ⟨i, true, ⟨hi, h1, (fun _ _ _ h => by cases h), fun _ => hx ▸ List.getElem_mem hlt⟩, Ev.step (fun k => by rw [slices_BinarySearch_int_int.l0, if_neg (by omega), if_pos (by omega), if_pos (by omega), if_pos (by omega), e, if_pos hx]) (Ev.now _)⟩
      · exact ⟨i, false, ⟨hi, h1, (fun t ht hit _ => by
          rcases Nat.lt_or_ge i t with h | h
          · have := so_lt hv h ht; have := h2 i hlt (by omega); omega
          · obtain rfl : t = i := by omega
            have := h2 t ht hit; omega), fun h => by cases h⟩, Ev.step (fun k => by
          rw [slices_BinarySearch_int_int.l0, if_neg (by omega), if_pos (by omega), if_pos (by omega), if_pos (by omega), e, if_neg hx]
          simp [slices_isNaN_int.f]) (Ev.now _)⟩
    · exact ⟨i, false, ⟨hi, h1, fun t ht hit _ => by omega, fun h => by cases h⟩, Ev.step (fun k => by rw [slices_BinarySearch_int_int.l0, if_neg (by omega), if_neg (by omega)]) (Ev.now _)⟩
  intro d
  induction d with
  | zero =>
    intro i j h1 h2 h3 h4 h5
    obtain rfl : i = j := by omega
    exact fin i h3 h4 h5
  | succ d ih =>
    intro i j h1 h2 h3 h4 h5
    by_cases hij : i < j
    · have hh : wrap64 ((IntKind.u64.wrap (wrap64 ((i : Int) + (j : Int)))) / 2) = (((i + j) / 2 : Nat) : Int) := by
        rw [IntKind.wrap_u64]
        unfold wrap64
        omega
      have hw : wrap64 ((((i + j) / 2 : Nat) : Int) + 1) = (((i + j) / 2 + 1 : Nat) : Int) := by unfold wrap64; omega
      have hm : (i + j) / 2 < l.length := by omega
      have e := rdI hm
      by_cases hx : l[(i + j) / 2] < x
      · obtain ⟨m, b, ha, hb⟩ := ih ((i + j) / 2 + 1) j (by omega) (by omega) h3 (fun t hl' ht => by
          rcases Nat.lt_or_ge t ((i + j) / 2) with h | h
          · have := so_lt hv h hm; omega
          · obtain rfl : t = (i + j) / 2 := by omega
            exact hx) h5
        refine ⟨m, b, ha, Ev.step (fun k => ?_) hb⟩
        rw [slices_BinarySearch_int_int.l0, if_pos (by omega), hh, if_pos (by omega), if_pos (by omega), less_is, e]
        simp only [Option.bind_some, decide_eq_true hx, if_true, hw]
      · obtain ⟨m, b, ha, hb⟩ := ih i ((i + j) / 2) (by omega) (by omega) (by omega) h4 (fun t htl ht => by
          rcases Nat.lt_or_ge ((i + j) / 2) t with h | h
          · have := so_lt hv h htl; omega
          · obtain rfl : t = (i + j) / 2 := by omega
            omega)
        refine ⟨m, b, ha, Ev.step (fun k => ?_) hb⟩
        rw [slices_BinarySearch_int_int.l0, if_pos (by omega), hh, if_pos (by omega), if_pos (by omega), less_is, e]
        simp only [Option.bind_some, decide_eq_false hx, if_neg (show ¬ (false = true) by decide)]
    · obtain rfl : i = j := by omega
      exact fin i h3 h4 h5
theorem insert_ev (l : List Int) (x K : Int) (hl : l.length ≤ 17592186043904) (hv : SO l) (hK : 0 ≤ K) (hn : l.length ≤ K.toNat) : Ev (fun k => kmv_insert.f k l x K) ((INS l x).take K.toNat) := by
  obtain ⟨m, b, ha, hb⟩ := binary_l0 l x hl hv l.length 0 l.length (by omega) (by omega) (Nat.le_refl _) (fun t h ht => by omega) (fun t h1 h2 => by omega)
  have hb' : Ev (fun k => slices_BinarySearch_int_int.f k l x) ((m : Int), b) := hb
  unfold kmv_insert.f
  refine Ev.bind hb' ?_
  cases b with
  | true =>
    refine Ev.congr (fun k => if_pos rfl) ?_
    rw [ins_in hv (ha.yes rfl), List.take_of_length_le hn]; exact Ev.now _
  | false =>
    refine Ev.congr (f := fun k => some ((INS l x).take K.toNat)) (fun k => ?_) (Ev.now _)
    have hle := ha.le
    have e := ins_at l x m hv ha.le ha.lo (fun t h hm => ha.hi t h hm rfl)
    have hlen : (INS l x).length = l.length + 1 := by rw [e, List.length_append, List.length_take, List.length_cons, List.length_drop]; omega
    rw [if_neg (show ¬ (((m : Int), false).2 = true) from Bool.false_ne_true), insG, if_pos ⟨by omega, by omega, by omega⟩, Int.toNat_natCast, ← e]
    by_cases h : K < ((l.length + 1 : Nat) : Int)
    · rw [if_pos h, if_pos hK]
    · rw [if_neg h, List.take_of_length_le (by omega)]
/-! ## Hash -/
def HS (s : ByteArray) : Nat → Nat → Int → Int
  | 0, _, h => wrap64 h
  | d + 1, i, h => HS s d (i + 1) (((Go.bits .xor .u32 h ((bt s i) % 4294967296)) * 16777619) % 4294967296)
def HASH (s : ByteArray) : Int := HS s s.size 0 2166136261
theorem hash_l0 (s : ByteArray) (hs : s.size ≤ 140737488351232) : ∀ (d i : Nat) (h : Int), i + d = s.size → Ev (fun k => labels_HashString.l0 k s h (i : Int)) (HS s d i h) := by
  intro d
  induction d with
  | zero => intro i h hd; exact Ev.step (fun k => by rw [labels_HashString.l0, if_neg (by omega)]; rfl) (Ev.now _)
  | succ d ih => intro i h hd; exact Ev.step (fun k => by rw [labels_HashString.l0, if_pos (by omega), if_pos (by omega), w1 (by omega)]) (ih (i + 1) _ (by omega))
theorem hash_ev (s : ByteArray) (hs : s.size ≤ 140737488351232) : Ev (fun k => labels_HashString.f k s) (HASH s) := hash_l0 s hs s.size 0 _ (by omega)
/-! ## Add -/
def ADD (K C : Int) (H : List Int) (s : ByteArray) : Int × Int × List Int × Int :=
  if OKK K C H then (if C = 1152921504606846976 then (0, 0, [], 4) else (K, C + 1, (INS H (HASH s)).take K.toNat, 0)) else (0, 0, [], 1)
theorem clone_is (l : List Int) (hl : l.length < 8796093022208) : clone_int.f l = some l := if_pos hl
theorem add_ev (K C : Int) (H : List Int) (s : ByteArray) (hl : H.length ≤ 17592186043904) (hs : s.size ≤ 140737488351232) : Ev (fun k => kmv_Add.f k K C H s) (ADD K C H s) := by
  simp only [kmv_Add.f]
  refine Ev.bind (check_ev K C H hl) ?_
  unfold CK ADD
  by_cases h : OKK K C H
  · rw [if_pos h, if_pos h]
    refine Ev.congr (fun k => if_pos rfl) ?_
    by_cases hc : C = 1152921504606846976
    · rw [if_pos hc]; exact Ev.congr (fun k => if_pos hc) (Ev.now _)
    · rw [if_neg hc]
      have h2 := h.1; have h3 := h.2.1; have h4 := h.2.2.1; have h5 := h.2.2.2.1; have h6 := h.len
      refine Ev.congr (fun k => (if_neg hc).trans (by rw [clone_is H (by omega), Option.bind_some])) ?_
      refine Ev.bind (hash_ev s hs) ?_
      refine Ev.bind (insert_ev H _ K hl h.so (by omega) h6) ?_
      rw [show wrap64 (C + 1) = C + 1 by unfold wrap64; omega]
      exact Ev.now _
  · rw [if_neg h, if_neg h]
    exact Ev.congr (fun k => if_neg (by decide)) (Ev.now _)
/-! ## Same -/
theorem same_l0 (a : List Int) (hn : a.length < 140737488355327) : ∀ (d i : Nat), i + d = a.length → Ev (fun k => lookoutref01_Same.l0 k a a (i : Int)) true := by
  intro d
  induction d with
  | zero => intro i h; exact Ev.step (fun k => by rw [lookoutref01_Same.l0, if_neg (by omega)]) (Ev.now _)
  | succ d ih => intro i h; exact Ev.step (fun k => by rw [lookoutref01_Same.l0, if_pos (by omega), if_pos (by omega), if_pos (by omega), if_pos rfl, w1 (by omega)]) (ih (i + 1) (by omega))
theorem same01 (a : List Int) (h : a.length < 140737488355327) : Ev (fun k => lookoutref01_Same.f k a a) true := by
  simp only [lookoutref01_Same.f, if_pos]; exact same_l0 a h a.length 0 (by omega)
theorem same30 (K C : Int) (a : List Int) (h : a.length < 140737488355327) : Ev (fun k => lookoutref30_Same.f k K C a K C a) true := by
  simp only [lookoutref30_Same.f, if_pos]; exact Ev.bind (same01 a h) (Ev.now _)
theorem ADD_len (K C : Int) (H : List Int) (s : ByteArray) (hl : H.length ≤ 17592186043904) : (ADD K C H s).2.2.1.length ≤ 17592186043904 := by
  unfold ADD
  split
  · rename_i h
    split
    · simp
    · have := h.2.1; have := ins_len H (HASH s)
      simp only [List.length_take]; omega
  · simp
/-! ## The example -/
theorem awake_ev : Ev (fun k => lookoutlaw30_awake.f k) true := by
  unfold lookoutlaw30_awake.f
  have ha : HASH ⟨#[97]⟩ = 3826002220 := by decide +kernel
  have hb : HASH ⟨#[98]⟩ = 3876335077 := by decide +kernel
  have e1 : ADD 2 0 [] ⟨#[97]⟩ = (2, 1, [3826002220], 0) := by unfold ADD; rw [ha]; decide +kernel
  have e2 : ADD 2 1 [3826002220] ⟨#[98]⟩ = (2, 2, [3826002220, 3876335077], 0) := by unfold ADD; rw [hb]; decide +kernel
  have e3 : ADD 2 2 [3826002220, 3876335077] ⟨#[97]⟩ = (2, 3, [3826002220, 3876335077], 0) := by unfold ADD; rw [ha]; decide +kernel
  have hof : Ev (fun k => lookoutlaw30_of.f k 2 ([(⟨#[97]⟩ : ByteArray), (⟨#[98]⟩ : ByteArray), (⟨#[97]⟩ : ByteArray)] : List ByteArray)) (2, 3, [3826002220, 3876335077], 0) := by
    refine Ev.congr (f := fun k => lookoutlaw30_of.l0 k 0 ([(⟨#[97]⟩ : ByteArray), (⟨#[98]⟩ : ByteArray), (⟨#[97]⟩ : ByteArray)] : List ByteArray) 3 0 2 0 []) (fun k => rfl) ?_
    refine Ev.step (f := fun k => (kmv_Add.f k 2 0 [] ⟨#[97]⟩).bind fun bt139 => (lookoutlaw30_of.l0 k bt139.2.2.2 [(⟨#[97]⟩ : ByteArray), (⟨#[98]⟩ : ByteArray), (⟨#[97]⟩ : ByteArray)] 3 1 bt139.1 bt139.2.1 bt139.2.2.1)) (fun k => by rw [lookoutlaw30_of.l0, if_pos (by omega), if_pos (by omega), if_pos (by show (0 : Int) < 3; omega), if_pos rfl, show wrap64 (0 + 1) = 1 by unfold wrap64; omega]; rfl) ?_
    have a1 := add_ev 2 0 [] ⟨#[97]⟩ (by simp) (by show 1 ≤ 140737488351232; omega)
    rw [e1] at a1
    refine Ev.bind a1 ?_
    refine Ev.step (f := fun k => (kmv_Add.f k 2 1 [3826002220] ⟨#[98]⟩).bind fun bt139 => (lookoutlaw30_of.l0 k bt139.2.2.2 [(⟨#[97]⟩ : ByteArray), (⟨#[98]⟩ : ByteArray), (⟨#[97]⟩ : ByteArray)] 3 2 bt139.1 bt139.2.1 bt139.2.2.1)) (fun k => by rw [lookoutlaw30_of.l0, if_pos (by omega), if_pos (by omega), if_pos (by show (1 : Int) < 3; omega), if_pos rfl, show wrap64 (1 + 1) = 2 by unfold wrap64; omega]; rfl) ?_
    have a2 := add_ev 2 1 [3826002220] ⟨#[98]⟩ (by simp) (by show 1 ≤ 140737488351232; omega)
    rw [e2] at a2
    refine Ev.bind a2 ?_
    refine Ev.step (f := fun k => (kmv_Add.f k 2 2 [3826002220, 3876335077] ⟨#[97]⟩).bind fun bt139 => (lookoutlaw30_of.l0 k bt139.2.2.2 [(⟨#[97]⟩ : ByteArray), (⟨#[98]⟩ : ByteArray), (⟨#[97]⟩ : ByteArray)] 3 3 bt139.1 bt139.2.1 bt139.2.2.1)) (fun k => by rw [lookoutlaw30_of.l0, if_pos (by omega), if_pos (by omega), if_pos (by show (2 : Int) < 3; omega), if_pos rfl, show wrap64 (2 + 1) = 3 by unfold wrap64; omega]; rfl) ?_
    have a3 := add_ev 2 2 [3826002220, 3876335077] ⟨#[97]⟩ (by simp) (by show 1 ≤ 140737488351232; omega)
    rw [e3] at a3
    refine Ev.bind a3 ?_
    exact Ev.step (fun k => by rw [lookoutlaw30_of.l0, if_neg (by omega)]) (Ev.now _)
  refine Ev.bind hof ?_
  have hck : CK 2 3 [3826002220, 3876335077] = 0 := by decide +kernel
  have hce := check_ev 2 3 [3826002220, 3876335077] (by simp)
  rw [hck] at hce
  have hbd : Ev (fun k => kmv_Bounds.f k 2 3 [3826002220, 3876335077]) (2, 3, 0) := Ev.bind hce (Ev.now _)
  refine Ev.bind hbd ?_
  have hes : Ev (fun k => kmv_Estimate.f k 2 3 [3826002220, 3876335077]) (2, 0) := Ev.bind hce (Ev.congr (fun k => by decide +kernel) (Ev.now _))
  refine Ev.bind hes ?_
  refine Ev.congr (f := fun k => (lookoutref01_Same.f k [3826002220, 3876335077] [3826002220, 3876335077]).bind fun t163 => (if t163 = true then some true else none)) (fun k => rfl) ?_
  exact Ev.bind (same01 _ (by simp)) (Ev.now _)
/-- The end of a statement: the chapter's example. -/
theorem awake_end : Ev (fun k => (lookoutlaw30_awake.f k).bind fun t => (some t)) true := Ev.bind awake_ev (Ev.now _)
end Go.Proofs.Ythblifjeecdhcaa.KB
