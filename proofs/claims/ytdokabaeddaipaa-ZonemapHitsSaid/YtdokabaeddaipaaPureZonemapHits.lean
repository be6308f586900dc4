/- ZonemapHits: the plain statement. No condition beyond those in the statement. -/
import Derived.Test.YtdokabaeddaipaaPx12
import Derived.Test.YtdokabaeddaipaaK4
namespace Go.Proofs.Ytdokabaeddaipaa.Pure
open Go.RowKit Go.Proofs.YtdokabaeddaipaaW.PrintWords Go.Proofs.YtdokabaeddaipaaW.PrintLast Go.Proofs.Ytdokabaeddaipaa.Hand Go.Proofs.Ytdokabaeddaipaa.A Go.Proofs.Ytdokabaeddaipaa.P Go.Proofs.Ytdokabaeddaipaa.K
section
variable (l : List S40) (z w : T13) (p0 p1 : Int) (p2 : Bool) (p3 p4 : Int) (q : List ByteArray)
theorem hits_l1 (hl : l.length ≤ 12) (hq : q.length ≤ 8) (hqf : K.fits q) (i : Nat) (x : S40) (hx : elB x = true) (hz : ∀ s ∈ x.f2, hasT z s = true)
    (hm : satB x.f0 x.f1 x.f2 p0 p1 p2 p3 p4 q = true → mayT z p0 p1 p2 p3 p4 q = true ∧ mayT w p0 p1 p2 p3 p4 q = true) (hi : i < l.length) (B : Nat) (hB : 40 ≤ B)
    (next : ∀ k, B ≤ k → lookoutlaw16_ZonemapHits.l0 k l l (l.length : Int) ((i + 1 : Nat) : Int) p0 p1 p2 p3 p4 q z.1 z.2.1 z.2.2.1 z.2.2.2.1 z.2.2.2.2.1 z.2.2.2.2.2.1 z.2.2.2.2.2.2.1 z.2.2.2.2.2.2.2.1 z.2.2.2.2.2.2.2.2.1 z.2.2.2.2.2.2.2.2.2.1 z.2.2.2.2.2.2.2.2.2.2.1 z.2.2.2.2.2.2.2.2.2.2.2.1 z.2.2.2.2.2.2.2.2.2.2.2.2 w.1 w.2.1 w.2.2.1 w.2.2.2.1 w.2.2.2.2.1 w.2.2.2.2.2.1 w.2.2.2.2.2.2.1 w.2.2.2.2.2.2.2.1 w.2.2.2.2.2.2.2.2.1 w.2.2.2.2.2.2.2.2.2.1 w.2.2.2.2.2.2.2.2.2.2.1 w.2.2.2.2.2.2.2.2.2.2.2.1 w.2.2.2.2.2.2.2.2.2.2.2.2 = some true) :
    ∀ (e j k : Nat), j + e = x.f2.length → B + e < k → lookoutlaw16_ZonemapHits.l1 k l l (l.length : Int) (i : Int) x.f2 (x.f2.length : Int) (j : Int) p0 p1 p2 p3 p4 q z.1 z.2.1 z.2.2.1 z.2.2.2.1 z.2.2.2.2.1 z.2.2.2.2.2.1 z.2.2.2.2.2.2.1 z.2.2.2.2.2.2.2.1 z.2.2.2.2.2.2.2.2.1 z.2.2.2.2.2.2.2.2.2.1 z.2.2.2.2.2.2.2.2.2.2.1 z.2.2.2.2.2.2.2.2.2.2.2.1 z.2.2.2.2.2.2.2.2.2.2.2.2 w.1 w.2.1 w.2.2.1 w.2.2.2.1 w.2.2.2.2.1 w.2.2.2.2.2.1 w.2.2.2.2.2.2.1 w.2.2.2.2.2.2.2.1 w.2.2.2.2.2.2.2.2.1 w.2.2.2.2.2.2.2.2.2.1 w.2.2.2.2.2.2.2.2.2.2.1 w.2.2.2.2.2.2.2.2.2.2.2.1 w.2.2.2.2.2.2.2.2.2.2.2.2 x.f0 x.f1 x.f2 = some true := by
  obtain ⟨hx1, hx2, hx3, hx4⟩ := el_parts hx
  intro e
  induction e with
  | zero =>
    intro j k hj hk
    obtain ⟨k, rfl⟩ : ∃ m, k = m + 1 := ⟨k - 1, by omega⟩
    rw [lookoutlaw16_ZonemapHits.l1, if_neg (by omega), sat_is _ _ _ _ _ _ _ _ _ (by omega) (by omega) k (by omega)]
    simp only [Option.bind_some]
    rw [show wrap64 ((i : Int) + 1) = ((i + 1 : Nat) : Int) by unfold wrap64; omega, next k (by omega)]
    cases hs : satB x.f0 x.f1 x.f2 p0 p1 p2 p3 p4 q with
    | false => rfl
    | true =>
      obtain ⟨m1, m2⟩ := hm hs
      rw [if_pos rfl, may_is z p0 p1 p2 p3 p4 q hqf (by omega) k (by omega), m1]
      simp only [Option.bind_some, if_true]
      rw [may_is w p0 p1 p2 p3 p4 q hqf (by omega) k (by omega), m2]
      rfl
  | succ e ih =>
    intro j k hj hk
    obtain ⟨k, rfl⟩ : ∃ m, k = m + 1 := ⟨k - 1, by omega⟩
    have hlt : j < x.f2.length := by omega
    rw [lookoutlaw16_ZonemapHits.l1, if_pos (by omega), if_pos (by omega), if_pos (by omega), rdOf_nat hlt, has_is z _ (hx2 _ (List.getElem_mem _)), hz _ (List.getElem_mem _)]
    simp only [Option.bind_some, if_true]
    rw [show wrap64 ((j : Int) + 1) = ((j + 1 : Nat) : Int) by unfold wrap64; omega]
    exact ih (j + 1) k (by omega) (by omega)
theorem hits_l0 (hl : l.length ≤ 12) (hq : q.length ≤ 8) (hqf : K.fits q) (hel : ∀ x ∈ l, elB x = true) (hz : ∀ x ∈ l, ∀ s ∈ x.f2, hasT z s = true)
    (hm : ∀ x ∈ l, satB x.f0 x.f1 x.f2 p0 p1 p2 p3 p4 q = true → mayT z p0 p1 p2 p3 p4 q = true ∧ mayT w p0 p1 p2 p3 p4 q = true) (hc : z.1 = l.length) :
    ∀ (d i k : Nat), i + d = l.length → 60 + d * 12 ≤ k → lookoutlaw16_ZonemapHits.l0 k l l (l.length : Int) (i : Int) p0 p1 p2 p3 p4 q z.1 z.2.1 z.2.2.1 z.2.2.2.1 z.2.2.2.2.1 z.2.2.2.2.2.1 z.2.2.2.2.2.2.1 z.2.2.2.2.2.2.2.1 z.2.2.2.2.2.2.2.2.1 z.2.2.2.2.2.2.2.2.2.1 z.2.2.2.2.2.2.2.2.2.2.1 z.2.2.2.2.2.2.2.2.2.2.2.1 z.2.2.2.2.2.2.2.2.2.2.2.2 w.1 w.2.1 w.2.2.1 w.2.2.2.1 w.2.2.2.2.1 w.2.2.2.2.2.1 w.2.2.2.2.2.2.1 w.2.2.2.2.2.2.2.1 w.2.2.2.2.2.2.2.2.1 w.2.2.2.2.2.2.2.2.2.1 w.2.2.2.2.2.2.2.2.2.2.1 w.2.2.2.2.2.2.2.2.2.2.2.1 w.2.2.2.2.2.2.2.2.2.2.2.2 = some true := by
  intro d
  induction d with
  | zero =>
    intro i k hi hk
    obtain ⟨k, rfl⟩ : ∃ m, k = m + 1 := ⟨k - 1, by omega⟩
    have haw := awake_ge (k - 12)
    rw [show 12 + (k - 12) = k by omega] at haw
    rw [lookoutlaw16_ZonemapHits.l0, if_neg (by omega), if_pos hc, haw]
    rfl
  | succ d ih =>
    intro i k hi hk
    obtain ⟨k, rfl⟩ : ∃ m, k = m + 1 := ⟨k - 1, by omega⟩
    have hlt : i < l.length := by omega
    have hmem : l[i] ∈ l := List.getElem_mem _
    rw [lookoutlaw16_ZonemapHits.l0, if_pos (by omega), if_pos (by omega), if_pos (by omega), rdT_nat hlt]
    have hx := el_parts (hel _ hmem)
    exact hits_l1 l z w p0 p1 p2 p3 p4 q hl hq hqf i l[i] (hel _ hmem) (hz _ hmem) (hm _ hmem) hlt (60 + d * 12) (by omega) (fun k hk => ih (i + 1) k (by omega) hk) l[i].f2.length 0 k (by omega) (by omega)
end
theorem sat_parts {t v : Int} {x : List ByteArray} {p0 p1 : Int} {p2 : Bool} {p3 p4 : Int} {q : List ByteArray} (h : satB t v x p0 p1 p2 p3 p4 q = true) : p0 < t ∧ t ≤ p1 ∧ (p2 = true → p3 ≤ v ∧ v ≤ p4) ∧ ∀ s ∈ q, s ∈ x := by
  unfold satB at h
  simp only [Bool.and_eq_true, Bool.or_eq_true, Bool.not_eq_true', decide_eq_true_eq, List.all_eq_true] at h
  refine ⟨h.2.1, h.2.2.1, fun e => ?_, fun s hs => memB_mem (h.1 s hs)⟩
  rcases h.2.2.2 with g | g
  · rw [e] at g; cases g
  · exact g
theorem ZonemapHits : lookoutlaw16_ZonemapHits.Pure := by
  intro l m p0 p1 p2 p3 p4 q hl1 hl2 hl3 hm1 hm2 hm3 _ _ _ _ hq1 hq2 hq3
  unfold maxLen at hl1 hm1 hq1
  refine ⟨1000 + l.length + m.length, ?_⟩
  obtain ⟨K0, hK0⟩ : ∃ K0, 1000 + l.length + m.length = K0 + 1 := ⟨999 + l.length + m.length, by omega⟩
  have hqf : K.fits q := fun s hs => by have := hq3 s hs; omega
  have haw := awake_ge (K0 - 12)
  rw [show 12 + (K0 - 12) = K0 by omega] at haw
  unfold lookoutlaw16_ZonemapHits.f
  rw [fits_is l hl1 _ (by omega), fits_is m hm1 _ (by omega), short_is, hK0]
  simp only [Option.bind_some, lookoutlaw16_ZonemapHits.j0, haw, if_true]
  cases hfl : fitsB l with
  | false => rfl
  | true =>
    rw [if_pos rfl]
    cases hfm : fitsB m with
    | false => rfl
    | true =>
      rw [if_pos rfl]
      cases hsq : (decide (q.length ≤ 8) && q.all (fun s => decide (s.size ≤ 40))) with
      | false => rfl
      | true =>
        unfold fitsB at hfl hfm
        simp only [Bool.and_eq_true, decide_eq_true_eq, List.all_eq_true] at hfl hfm hsq
        have zl := zn_of l zn_zero (by omega) (by omega) hfl.1
        have zm := zn_of m zn_zero (by omega) (by omega) hfm.1
        rw [show (!true) = false from rfl]
        simp only [Bool.false_eq_true, if_false]
        rw [of_is l hl1 (fun x hx => (el_parts (hfl.1 x hx)).2.1) K0 (by omega)]
        simp only [Option.bind_some]
        rw [of_is m hm1 (fun x hx => (el_parts (hfm.1 x hx)).2.1) K0 (by omega)]
        simp only [Option.bind_some]
        rw [merge_is (ofT zeroT l) (ofT zeroT m)]
        simp only [Option.bind_some]
        refine hits_l0 l (ofT zeroT l) (mrgT (ofT zeroT l) (ofT zeroT m)) p0 p1 p2 p3 p4 q hfl.2 hsq.1 hqf hfl.1 (fun x hx s hs => (zl.2.1 x hx).has s hs) (fun x hx hsat => ?_) (by rw [zl.1.cnt]; omega) l.length 0 K0 (by omega) (by omega)
        obtain ⟨s1, s2, s3, s4⟩ := sat_parts hsat
        have hmay := may_cov (zl.2.1 x hx) s1 s2 s3 s4
        exact ⟨hmay, may_mrg zl.1.chk zm.1.chk zl.1.ok zm.1.ok hmay⟩
end Go.Proofs.Ytdokabaeddaipaa.Pure
