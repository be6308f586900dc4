/- Zones as plain tuples: what the functions of zonemap return, as plain functions. No condition beyond those in the statements. -/
import Derived.Test.YtdokabaeddaipaaPx5
import Derived.Test.YtdokabaeddaipaaPx6
import Derived.Test.YtdokabaeddaipaaPx3
import Derived.Test.YtdokabaeddaipaaPx7
namespace Go.Proofs.Ytdokabaeddaipaa.K
open Go.RowKit Go.Proofs.YtdokabaeddaipaaW.PrintWords Go.Proofs.YtdokabaeddaipaaW.PrintLast Go.Proofs.Ytdokabaeddaipaa.Hand Go.Proofs.Ytdokabaeddaipaa.A Go.Proofs.Ytdokabaeddaipaa.P
set_option linter.unusedVariables false
set_option linter.unusedSimpArgs false
abbrev T13 : Type := Int × Int × Int × Int × Int × Int × Int × Int × Int × Int × Int × Int × Int
def zeroT : T13 := (0, 0, 0, 0, 0, 0, 0, 0, 0, 0, 0, 0, 0)
def chk (z : T13) : Int := checkZ z.1 z.2.1 z.2.2.1 z.2.2.2.1 z.2.2.2.2.1 z.2.2.2.2.2.1 z.2.2.2.2.2.2.1 z.2.2.2.2.2.2.2.1 z.2.2.2.2.2.2.2.2.1 z.2.2.2.2.2.2.2.2.2.1 z.2.2.2.2.2.2.2.2.2.2.1 z.2.2.2.2.2.2.2.2.2.2.2.1 z.2.2.2.2.2.2.2.2.2.2.2.2
def wds (z : T13) : List Int := [z.2.2.2.2.2.1, z.2.2.2.2.2.2.1, z.2.2.2.2.2.2.2.1, z.2.2.2.2.2.2.2.2.1, z.2.2.2.2.2.2.2.2.2.1, z.2.2.2.2.2.2.2.2.2.2.1, z.2.2.2.2.2.2.2.2.2.2.2.1, z.2.2.2.2.2.2.2.2.2.2.2.2]
def zeroZ (z : T13) : Bool := zeroB z.1 z.2.1 z.2.2.1 z.2.2.2.1 z.2.2.2.2.1 z.2.2.2.2.2.1 z.2.2.2.2.2.2.1 z.2.2.2.2.2.2.2.1 z.2.2.2.2.2.2.2.2.1 z.2.2.2.2.2.2.2.2.2.1 z.2.2.2.2.2.2.2.2.2.2.1 z.2.2.2.2.2.2.2.2.2.2.2.1 z.2.2.2.2.2.2.2.2.2.2.2.2
def joinT (a b : T13) : T13 :=
  if zeroZ a = true then b else if zeroZ b = true then a
  else (mn (wrap64 (a.1 + b.1)) 1152921504606846976, mn a.2.1 b.2.1, mx a.2.2.1 b.2.2.1, mn a.2.2.2.1 b.2.2.2.1, mx a.2.2.2.2.1 b.2.2.2.2.1, Go.bits .or .u32 a.2.2.2.2.2.1 b.2.2.2.2.2.1, Go.bits .or .u32 a.2.2.2.2.2.2.1 b.2.2.2.2.2.2.1, Go.bits .or .u32 a.2.2.2.2.2.2.2.1 b.2.2.2.2.2.2.2.1, Go.bits .or .u32 a.2.2.2.2.2.2.2.2.1 b.2.2.2.2.2.2.2.2.1, Go.bits .or .u32 a.2.2.2.2.2.2.2.2.2.1 b.2.2.2.2.2.2.2.2.2.1, Go.bits .or .u32 a.2.2.2.2.2.2.2.2.2.2.1 b.2.2.2.2.2.2.2.2.2.2.1, Go.bits .or .u32 a.2.2.2.2.2.2.2.2.2.2.2.1 b.2.2.2.2.2.2.2.2.2.2.2.1, Go.bits .or .u32 a.2.2.2.2.2.2.2.2.2.2.2.2 b.2.2.2.2.2.2.2.2.2.2.2.2)
theorem join_is (a b : T13) : zonemap_join.f a.1 a.2.1 a.2.2.1 a.2.2.2.1 a.2.2.2.2.1 a.2.2.2.2.2.1 a.2.2.2.2.2.2.1 a.2.2.2.2.2.2.2.1 a.2.2.2.2.2.2.2.2.1 a.2.2.2.2.2.2.2.2.2.1 a.2.2.2.2.2.2.2.2.2.2.1 a.2.2.2.2.2.2.2.2.2.2.2.1 a.2.2.2.2.2.2.2.2.2.2.2.2 b.1 b.2.1 b.2.2.1 b.2.2.2.1 b.2.2.2.2.1 b.2.2.2.2.2.1 b.2.2.2.2.2.2.1 b.2.2.2.2.2.2.2.1 b.2.2.2.2.2.2.2.2.1 b.2.2.2.2.2.2.2.2.2.1 b.2.2.2.2.2.2.2.2.2.2.1 b.2.2.2.2.2.2.2.2.2.2.2.1 b.2.2.2.2.2.2.2.2.2.2.2.2 = some (joinT a b) := by
  unfold zonemap_join.f joinT zeroZ
  rfl
def oneT (t v : Int) (l : List ByteArray) : T13 := (1, t, t, v, v, (bloomL l).getD 0 0, (bloomL l).getD 1 0, (bloomL l).getD 2 0, (bloomL l).getD 3 0, (bloomL l).getD 4 0, (bloomL l).getD 5 0, (bloomL l).getD 6 0, (bloomL l).getD 7 0)
def okT (z : T13) (t v : Int) : Bool := addOk z.1 z.2.1 z.2.2.1 z.2.2.2.1 z.2.2.2.2.1 z.2.2.2.2.2.1 z.2.2.2.2.2.2.1 z.2.2.2.2.2.2.2.1 z.2.2.2.2.2.2.2.2.1 z.2.2.2.2.2.2.2.2.2.1 z.2.2.2.2.2.2.2.2.2.2.1 z.2.2.2.2.2.2.2.2.2.2.2.1 z.2.2.2.2.2.2.2.2.2.2.2.2 t v
def addT (z : T13) (t v : Int) (l : List ByteArray) : T13 := if okT z t v = true then joinT z (oneT t v l) else z
def fits (l : List ByteArray) : Prop := ∀ s ∈ l, s.size + 2 ≤ 9223372036854775807
theorem add_is (z : T13) (t v : Int) (l : List ByteArray) (hl : fits l) : zonemap_Add.f z.1 z.2.1 z.2.2.1 z.2.2.2.1 z.2.2.2.2.1 z.2.2.2.2.2.1 z.2.2.2.2.2.2.1 z.2.2.2.2.2.2.2.1 z.2.2.2.2.2.2.2.2.1 z.2.2.2.2.2.2.2.2.2.1 z.2.2.2.2.2.2.2.2.2.2.1 z.2.2.2.2.2.2.2.2.2.2.2.1 z.2.2.2.2.2.2.2.2.2.2.2.2 t v l = some (addT z t v l) := by
  unfold zonemap_Add.f addT okT
  by_cases h : addOk z.1 z.2.1 z.2.2.1 z.2.2.2.1 z.2.2.2.2.1 z.2.2.2.2.2.1 z.2.2.2.2.2.2.1 z.2.2.2.2.2.2.2.1 z.2.2.2.2.2.2.2.2.1 z.2.2.2.2.2.2.2.2.2.1 z.2.2.2.2.2.2.2.2.2.2.1 z.2.2.2.2.2.2.2.2.2.2.2.1 z.2.2.2.2.2.2.2.2.2.2.2.2 t v = true
  · rw [if_pos h, if_pos h, if_pos (show ∀ s ∈ l, s.size + 2 ≤ 9223372036854775807 from hl)]
    exact join_is z (oneT t v l)
  · rw [if_neg h, if_neg h]
def hasT (z : T13) (s : ByteArray) : Bool := hasZ (wds z) s
theorem has_is (z : T13) (s : ByteArray) (hs : s.size + 2 ≤ 9223372036854775807) : zonemap_Has.f z.1 z.2.1 z.2.2.1 z.2.2.2.1 z.2.2.2.2.1 z.2.2.2.2.2.1 z.2.2.2.2.2.2.1 z.2.2.2.2.2.2.2.1 z.2.2.2.2.2.2.2.2.1 z.2.2.2.2.2.2.2.2.2.1 z.2.2.2.2.2.2.2.2.2.2.1 z.2.2.2.2.2.2.2.2.2.2.2.1 z.2.2.2.2.2.2.2.2.2.2.2.2 s = some (hasT z s) := by
  unfold zonemap_Has.f
  rw [if_pos hs]
  rfl
def mrgT (a b : T13) : T13 := if chk a = 0 ∧ chk b = 0 then joinT a b else zeroT
theorem merge_is (a b : T13) : zonemap_Merge.f a.1 a.2.1 a.2.2.1 a.2.2.2.1 a.2.2.2.2.1 a.2.2.2.2.2.1 a.2.2.2.2.2.2.1 a.2.2.2.2.2.2.2.1 a.2.2.2.2.2.2.2.2.1 a.2.2.2.2.2.2.2.2.2.1 a.2.2.2.2.2.2.2.2.2.2.1 a.2.2.2.2.2.2.2.2.2.2.2.1 a.2.2.2.2.2.2.2.2.2.2.2.2 b.1 b.2.1 b.2.2.1 b.2.2.2.1 b.2.2.2.2.1 b.2.2.2.2.2.1 b.2.2.2.2.2.2.1 b.2.2.2.2.2.2.2.1 b.2.2.2.2.2.2.2.2.1 b.2.2.2.2.2.2.2.2.2.1 b.2.2.2.2.2.2.2.2.2.2.1 b.2.2.2.2.2.2.2.2.2.2.2.1 b.2.2.2.2.2.2.2.2.2.2.2.2 = some (mrgT a b) := by
  unfold zonemap_Merge.f zcheck.f mrgT
  simp only [Option.bind_some]
  by_cases h1 : chk a = 0
  · rw [if_pos (show checkZ a.1 a.2.1 a.2.2.1 a.2.2.2.1 a.2.2.2.2.1 a.2.2.2.2.2.1 a.2.2.2.2.2.2.1 a.2.2.2.2.2.2.2.1 a.2.2.2.2.2.2.2.2.1 a.2.2.2.2.2.2.2.2.2.1 a.2.2.2.2.2.2.2.2.2.2.1 a.2.2.2.2.2.2.2.2.2.2.2.1 a.2.2.2.2.2.2.2.2.2.2.2.2 = 0 from h1)]
    by_cases h2 : chk b = 0
    · rw [if_pos (show checkZ b.1 b.2.1 b.2.2.1 b.2.2.2.1 b.2.2.2.2.1 b.2.2.2.2.2.1 b.2.2.2.2.2.2.1 b.2.2.2.2.2.2.2.1 b.2.2.2.2.2.2.2.2.1 b.2.2.2.2.2.2.2.2.2.1 b.2.2.2.2.2.2.2.2.2.2.1 b.2.2.2.2.2.2.2.2.2.2.2.1 b.2.2.2.2.2.2.2.2.2.2.2.2 = 0 from h2), if_pos ⟨h1, h2⟩, join_is]
      rfl
    · rw [if_neg (show ¬ checkZ b.1 b.2.1 b.2.2.1 b.2.2.2.1 b.2.2.2.2.1 b.2.2.2.2.2.1 b.2.2.2.2.2.2.1 b.2.2.2.2.2.2.2.1 b.2.2.2.2.2.2.2.2.1 b.2.2.2.2.2.2.2.2.2.1 b.2.2.2.2.2.2.2.2.2.2.1 b.2.2.2.2.2.2.2.2.2.2.2.1 b.2.2.2.2.2.2.2.2.2.2.2.2 = 0 from h2), if_neg (fun h => h2 h.2)]
      rfl
  · rw [if_neg (show ¬ checkZ a.1 a.2.1 a.2.2.1 a.2.2.2.1 a.2.2.2.2.1 a.2.2.2.2.2.1 a.2.2.2.2.2.2.1 a.2.2.2.2.2.2.2.1 a.2.2.2.2.2.2.2.2.1 a.2.2.2.2.2.2.2.2.2.1 a.2.2.2.2.2.2.2.2.2.2.1 a.2.2.2.2.2.2.2.2.2.2.2.1 a.2.2.2.2.2.2.2.2.2.2.2.2 = 0 from h1), if_neg (fun h => h1 h.1)]
    rfl
def mayT (z : T13) (p0 p1 : Int) (p2 : Bool) (p3 p4 : Int) (l : List ByteArray) : Bool :=
  if chk z = 0 then
    !(decide (z.1 = 0) || (decide (z.2.2.1 ≤ p0) || decide (p1 < z.2.1))) && (!(p2 && (decide (z.2.2.2.2.1 < p3) || decide (p4 < z.2.2.2.1))) && l.all (hasT z))
  else true
theorem rdOf_nat {l : List ByteArray} {i : Nat} (h : i < l.length) : rdOf ByteArray.empty l (i : Int) = l[i] := by simp [rdOf, List.getD_eq_getElem?_getD, h]
theorem may_l0 (z : T13) (l : List ByteArray) (hl : fits l) (hlen : l.length ≤ 9223372036854775807) : ∀ (d k i : Nat), i + d = l.length → d < k → zonemap_May.l0 k l (l.length : Int) (i : Int) z.1 z.2.1 z.2.2.1 z.2.2.2.1 z.2.2.2.2.1 z.2.2.2.2.2.1 z.2.2.2.2.2.2.1 z.2.2.2.2.2.2.2.1 z.2.2.2.2.2.2.2.2.1 z.2.2.2.2.2.2.2.2.2.1 z.2.2.2.2.2.2.2.2.2.2.1 z.2.2.2.2.2.2.2.2.2.2.2.1 z.2.2.2.2.2.2.2.2.2.2.2.2 = some ((l.drop i).all (hasT z)) := by
  intro d
  induction d with
  | zero =>
    intro k i hi hk
    obtain ⟨k, rfl⟩ : ∃ m, k = m + 1 := ⟨k - 1, by omega⟩
    rw [zonemap_May.l0, if_neg (by omega), List.drop_eq_nil_of_le (by omega)]
    rfl
  | succ d ih =>
    intro k i hi hk
    obtain ⟨k, rfl⟩ : ∃ m, k = m + 1 := ⟨k - 1, by omega⟩
    have hlt : i < l.length := by omega
    rw [zonemap_May.l0, if_pos (by omega), if_pos (by omega), if_pos (by omega), rdOf_nat hlt, has_is z _ (hl _ (List.getElem_mem _)), List.drop_eq_getElem_cons hlt]
    simp only [Option.bind_some, List.all_cons]
    cases hasT z l[i] with
    | true =>
      rw [if_pos rfl, show wrap64 ((i : Int) + 1) = ((i + 1 : Nat) : Int) by unfold wrap64; omega, ih k (i + 1) (by omega) (by omega)]
      rfl
    | false => rfl
theorem may_is (z : T13) (p0 p1 : Int) (p2 : Bool) (p3 p4 : Int) (l : List ByteArray) (hl : fits l) (hlen : l.length ≤ 9223372036854775807) (k : Nat) (hk : l.length + 3 ≤ k) : zonemap_May.f k z.1 z.2.1 z.2.2.1 z.2.2.2.1 z.2.2.2.2.1 z.2.2.2.2.2.1 z.2.2.2.2.2.2.1 z.2.2.2.2.2.2.2.1 z.2.2.2.2.2.2.2.2.1 z.2.2.2.2.2.2.2.2.2.1 z.2.2.2.2.2.2.2.2.2.2.1 z.2.2.2.2.2.2.2.2.2.2.2.1 z.2.2.2.2.2.2.2.2.2.2.2.2 p0 p1 p2 p3 p4 l = some (mayT z p0 p1 p2 p3 p4 l) := by
  obtain ⟨k, rfl⟩ : ∃ m, k = m + 1 + 1 := ⟨k - 2, by omega⟩
  have hloop := may_l0 z l hl hlen l.length k 0 (by omega) (by omega)
  rw [List.drop_zero] at hloop
  unfold zonemap_May.f zcheck.f mayT
  simp only [Option.bind_some, zonemap_May.j0, zonemap_May.j1]
  by_cases h1 : chk z = 0
  · rw [if_pos (show checkZ z.1 z.2.1 z.2.2.1 z.2.2.2.1 z.2.2.2.2.1 z.2.2.2.2.2.1 z.2.2.2.2.2.2.1 z.2.2.2.2.2.2.2.1 z.2.2.2.2.2.2.2.2.1 z.2.2.2.2.2.2.2.2.2.1 z.2.2.2.2.2.2.2.2.2.2.1 z.2.2.2.2.2.2.2.2.2.2.2.1 z.2.2.2.2.2.2.2.2.2.2.2.2 = 0 from h1), if_pos h1]
    by_cases h2 : z.1 = 0
    · simp [h2]
    rw [if_neg h2]
    by_cases h3 : z.2.2.1 ≤ p0
    · simp [h3]
    rw [if_neg h3]
    by_cases h4 : z.2.1 > p1
    · simp [h4]
    simp only [h2, h3, h4, decide_false, Bool.false_or, Bool.not_false, Bool.true_and, Bool.false_eq_true, if_false]
    cases p2 with
    | false =>
      simp only [Bool.false_and, Bool.not_false, Bool.true_and, Bool.false_eq_true, if_false]
      exact hloop
    | true =>
      simp only [if_true, Bool.true_and]
      by_cases h5 : z.2.2.2.2.1 < p3
      · simp [h5]
      rw [if_neg h5]
      by_cases h6 : z.2.2.2.1 > p4
      · simp [h5, h6]
      simp only [h5, h6, decide_false, Bool.false_or, Bool.not_false, Bool.true_and, Bool.false_eq_true, if_false]
      exact hloop
  · rw [if_neg (show ¬ checkZ z.1 z.2.1 z.2.2.1 z.2.2.2.1 z.2.2.2.2.1 z.2.2.2.2.2.1 z.2.2.2.2.2.2.1 z.2.2.2.2.2.2.2.1 z.2.2.2.2.2.2.2.2.1 z.2.2.2.2.2.2.2.2.2.1 z.2.2.2.2.2.2.2.2.2.2.1 z.2.2.2.2.2.2.2.2.2.2.2.1 z.2.2.2.2.2.2.2.2.2.2.2.2 = 0 from h1), if_neg h1]
theorem awake_at : lookoutlaw16_awake.f 12 = some true := by decide +kernel
theorem awake_ge (k : Nat) : lookoutlaw16_awake.f (12 + k) = some true := by
  induction k with
  | zero => exact awake_at
  | succ k ih => exact lookoutlaw16_awake.mono (12 + k) _ ih
theorem short_is (l : List ByteArray) : lookoutlaw16_short.f l = some (decide (l.length ≤ 8) && l.all (fun s => decide (s.size ≤ 40))) := by
  unfold lookoutlaw16_short.f contains_long.f
  by_cases h : l.length ≤ 8
  · rw [if_pos (by omega), decide_eq_true h]
    simp only [Option.bind_some, Bool.true_and, Option.some.injEq]
    rw [Bool.eq_iff_iff]
    simp [contains_long.pred]
  · rw [if_neg (by omega), decide_eq_false h]
    rfl
theorem short_true {l : List ByteArray} (h : (decide (l.length ≤ 8) && l.all (fun s => decide (s.size ≤ 40))) = true) : l.length ≤ 8 ∧ fits l ∧ ∀ s ∈ l, s.size ≤ 40 := by
  simp only [Bool.and_eq_true, decide_eq_true_eq, List.all_eq_true] at h
  exact ⟨h.1, fun s hs => by have := h.2 s hs; omega, h.2⟩
end Go.Proofs.Ytdokabaeddaipaa.K
