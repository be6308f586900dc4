/- ZonemapOrders: the plain statement. No condition beyond those in the statement. -/
import Derived.Test.YtdokabaeddaipaaOx7
import Derived.Test.YtdokabaeddaipaaK5
namespace Go.Proofs.Ytdokabaeddaipaa.Pure
open Go.RowKit Go.Proofs.YtdokabaeddaipaaW.PrintWords Go.Proofs.YtdokabaeddaipaaW.PrintLast Go.Proofs.Ytdokabaeddaipaa.Hand Go.Proofs.Ytdokabaeddaipaa.A Go.Proofs.Ytdokabaeddaipaa.P Go.Proofs.Ytdokabaeddaipaa.O Go.Proofs.Ytdokabaeddaipaa.K
def eqO (a b : T13) : Bool := (a.1 == b.1 && (a.2.1 == b.2.1 && (a.2.2.1 == b.2.2.1 && (a.2.2.2.1 == b.2.2.2.1 && (a.2.2.2.2.1 == b.2.2.2.2.1 && ((a.2.2.2.2.2.1 == b.2.2.2.2.2.1 && (a.2.2.2.2.2.2.1 == b.2.2.2.2.2.2.1 && (a.2.2.2.2.2.2.2.1 == b.2.2.2.2.2.2.2.1 && (a.2.2.2.2.2.2.2.2.1 == b.2.2.2.2.2.2.2.2.1 && (a.2.2.2.2.2.2.2.2.2.1 == b.2.2.2.2.2.2.2.2.2.1 && (a.2.2.2.2.2.2.2.2.2.2.1 == b.2.2.2.2.2.2.2.2.2.2.1 && (a.2.2.2.2.2.2.2.2.2.2.2.1 == b.2.2.2.2.2.2.2.2.2.2.2.1 && (a.2.2.2.2.2.2.2.2.2.2.2.2 == b.2.2.2.2.2.2.2.2.2.2.2.2))))))))))))))
theorem eqO_refl (a : T13) : eqO a a = true := by unfold eqO; simp
theorem concat_is (l m : List S40) (hl : l.length ≤ 12) (hm : m.length ≤ 12) (k : Nat) (hk : 8 ≤ k) : lookoutlaw16_Element_26.f k [l, m] = some (l ++ m) := by
  obtain ⟨k, rfl⟩ : ∃ m, k = m + 8 := ⟨k - 8, by omega⟩
  have r0 : rd_L9 [l, m] 0 = l := rfl
  have r1 : rd_L9 [l, m] 1 = m := rfl
  have w0 : wrap64 ((0 : Int) + 1) = 1 := by unfold wrap64; omega
  have w1 : wrap64 ((1 : Int) + 1) = 2 := by unfold wrap64; omega
  have w2 : wrap64 (0 + (l.length : Int)) = l.length := by unfold wrap64; omega
  have w3 : wrap64 ((l.length : Int) + (m.length : Int)) = l.length + m.length := by unfold wrap64; omega
  unfold lookoutlaw16_Element_26.f
  rw [lookoutlaw16_Element_26.l0, if_pos (by simp), if_pos (by omega), if_pos (by simp), r0, w2, if_neg (by omega), w0]
  rw [lookoutlaw16_Element_26.l0, if_pos (by simp), if_pos (by omega), if_pos (by simp), r1, w3, if_neg (by omega), w1]
  rw [lookoutlaw16_Element_26.l0, if_neg (by simp), grow_nil.f, if_pos (by omega)]
  simp only [Option.bind_some]
  rw [lookoutlaw16_Element_26.l1, if_pos (by simp), if_pos (by omega), if_pos (by simp), r0, if_pos (by simp; omega), w0, List.nil_append]
  rw [lookoutlaw16_Element_26.l1, if_pos (by simp), if_pos (by omega), if_pos (by simp), r1, if_pos (by omega), w1]
  rw [lookoutlaw16_Element_26.l1, if_neg (by simp)]
theorem ZonemapOrders : lookoutlaw16_ZonemapOrders.Pure := by
  intro l m n hl1 hl2 hl3 hm1 hm2 hm3 hn1 hn2 hn3
  unfold maxLen at hl1 hm1 hn1
  refine ⟨1001 + l.length + m.length + n.length, ?_⟩
  obtain ⟨K0, hK0, hKa⟩ : ∃ K0, 1001 + l.length + m.length + n.length = K0 + 1 ∧ K0 = 1000 + l.length + m.length + n.length := ⟨1000 + l.length + m.length + n.length, by omega, rfl⟩
  have haw := awake_ge (K0 - 12)
  rw [show 12 + (K0 - 12) = K0 by omega] at haw
  rw [hK0]
  have hj : lookoutlaw16_ZonemapOrders.j0 (K0 + 1) l m n true = some true := by
    rw [lookoutlaw16_ZonemapOrders.j0, if_pos rfl, haw]
    rfl
  unfold lookoutlaw16_ZonemapOrders.f
  rw [fits_is l hl1 _ (by omega), fits_is m hm1 _ (by omega), fits_is n hn1 _ (by omega)]
  simp only [Option.bind_some]
  cases hfl : fitsB l with
  | false => exact hj
  | true =>
    rw [if_pos rfl]
    cases hfm : fitsB m with
    | false => exact hj
    | true =>
      rw [if_pos rfl]
      cases hfn : fitsB n with
      | false => exact hj
      | true =>
        unfold fitsB at hfl hfm hfn
        simp only [Bool.and_eq_true, decide_eq_true_eq, List.all_eq_true] at hfl hfm hfn
        have za := of_zn hfl.1 (by omega)
        have zb := of_zn hfm.1 (by omega)
        have zc := of_zn hfn.1 (by omega)
        have hel : ∀ {q : List S40}, (∀ x ∈ q, elB x = true) → ∀ x ∈ q, K.fits x.f2 := fun h x hx => (el_parts (h x hx)).2.1
        have hap : ∀ x ∈ l ++ m, elB x = true := fun x hx => (List.mem_append.1 hx).elim (hfl.1 x) (hfm.1 x)
        have hrv : ∀ x ∈ (l ++ m).reverse, elB x = true := fun x hx => hap x (List.mem_reverse.1 hx)
        have hlen : (l ++ m).reverse.length = l.length + m.length := by rw [List.length_reverse, List.length_append]
        rw [show (!true) = false from rfl, lookoutlaw16_ZonemapOrders.j0, if_neg (by simp)]
        rw [of_is l hl1 (hel hfl.1) K0 (by omega), of_is m hm1 (hel hfm.1) K0 (by omega), of_is n hn1 (hel hfn.1) K0 (by omega), concat_is l m hfl.2 hfm.2 K0 (by omega)]
        simp only [Option.bind_some]
        rw [of_is (l ++ m).reverse (by omega) (hel hrv) K0 (by omega), haw]
        unfold reverse_el.f
        simp only [Option.bind_some]
        obtain ⟨a, ha⟩ : ∃ a, a = ofT zeroT l := ⟨_, rfl⟩
        obtain ⟨b, hb⟩ : ∃ b, b = ofT zeroT m := ⟨_, rfl⟩
        obtain ⟨c, hc⟩ : ∃ c, c = ofT zeroT n := ⟨_, rfl⟩
        have e5 : ofT zeroT (l ++ m).reverse = mrgT a b := by
          rw [of_reverse (l ++ m) hap (by simp; omega), of_append l m hfl.1 hfm.1 (by omega), ← ha, ← hb]
          unfold mrgT
          rw [if_pos ⟨by rw [ha]; exact za.chk, by rw [hb]; exact zb.chk⟩]
        rw [e5, ← ha, ← hb, ← hc]
        rw [← ha] at za
        rw [← hb] at zb
        rw [← hc] at zc
        have mm : ∀ {x y : T13}, chk x = 0 → chk y = 0 → mrgT x y = joinT x y := fun hx hy => by unfold mrgT; rw [if_pos ⟨hx, hy⟩]
        have e1 : mrgT a b = mrgT b a := by rw [mm za.chk zb.chk, mm zb.chk za.chk]; exact join_comm za.chk zb.chk za.ok zb.ok
        have e2 : mrgT a (mrgT b c) = mrgT (mrgT a b) c := by
          rw [mm zb.chk zc.chk, mm za.chk zb.chk, mm za.chk (chk_join zb.chk zc.chk), mm (chk_join za.chk zb.chk) zc.chk]
          exact join_assoc za.chk zb.chk zc.chk za.ok zb.ok zc.ok
        have e3 : mrgT a zeroT = a := by rw [mm za.chk chk_zero]; exact join_zr zz_zero a
        have e4 : mrgT zeroT a = a := by rw [mm chk_zero za.chk]; exact join_zl zz_zero a
        have m3 := merge_is a zeroT
        have m4 := merge_is zeroT a
        unfold zeroT at m3 m4 e3 e4
        simp only [] at m3 m4
        rw [merge_is a b, merge_is b a]
        simp only [Option.bind_some]
        change (if eqO (mrgT a b) (mrgT b a) = true then _ else _) = some true
        rw [← e1, eqO_refl, if_pos rfl, merge_is b c]
        simp only [Option.bind_some]
        rw [merge_is a (mrgT b c)]
        simp only [Option.bind_some]
        rw [merge_is (mrgT a b) c]
        simp only [Option.bind_some]
        change (if eqO (mrgT a (mrgT b c)) (mrgT (mrgT a b) c) = true then _ else _) = some true
        rw [e2, eqO_refl, if_pos rfl, m3, e3]
        simp only [Option.bind_some]
        change (if eqO a a = true then _ else _) = some true
        rw [eqO_refl, if_pos rfl, m4, e4]
        simp only [Option.bind_some]
        change (if eqO a a = true then _ else _) = some true
        rw [eqO_refl, if_pos rfl]
        change (if eqO (mrgT a b) (mrgT a b) = true then some true else none) = some true
        rw [eqO_refl]
        rfl
end Go.Proofs.Ytdokabaeddaipaa.Pure
