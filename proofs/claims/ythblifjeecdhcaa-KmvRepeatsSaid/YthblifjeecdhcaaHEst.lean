/- The contract of kmv.Estimate: what the Go code returns for any sketch. No further condition. -/
import Derived.Test.YthblifjeecdhcaaAx5
import Derived.Test.YthblifjeecdhcaaAx6
import Derived.Test.YthblifjeecdhcaaWMore
import Derived.WalkKit
import Derived.RangeFuncRecord
namespace Go.Proofs.Ythblifjeecdhcaa.Hand
open Go.RowKit Go.Proofs.YthblifjeecdhcaaW.PrintWords Go.Proofs.YthblifjeecdhcaaW.PrintMore Go.Proofs.Ythblifjeecdhcaa.A
attribute [local go_sem] max2_int min2_int max_two min_two
set_option linter.unusedVariables false
set_option linter.unusedSimpArgs false
def estG (K : Int) (H : List Int) (lo hi : Int) : Option Int := if (H.length : Int) < K then some (H.length : Int) else if 0 < H.length ∧ 0 ≤ rd H ((H.length : Int) - 1) ∧ rd H ((H.length : Int) - 1) < 4294967296 ∧ 1 ≤ K ∧ K ≤ 1000 then some (mn (mx ((K - 1) * 4294967296 / (rd H ((H.length : Int) - 1) + 1)) lo) hi) else none
def kmv_Estimate.f (k : Nat) (a0_0 a0_1 : Int) (l0_2 : List Int) : Option (Int × Int) := (kmv_Check.f k a0_0 a0_1 l0_2).bind fun t => if t = 0 then ((kmv_bounds.f a0_0 a0_1 l0_2).bind fun p => (estG a0_0 l0_2 p.1 p.2).bind fun n => some (n, 0)) else some (0, 1)
theorem kmv_Estimate.mono : ∀ a0 a1 a2 k, LeO (kmv_Estimate.f k a0 a1 a2) (kmv_Estimate.f (k + 1) a0 a1 a2) := by
  intro a0 a1 a2 k
  unfold kmv_Estimate.f
  exact LeO.bind (kmv_Check.mono _ _ _ _) (fun t => LeO.refl _)
set_option maxHeartbeats 1000000 in
theorem est_clo (n lo hi : Int) (b1 b2 : Nat) (w : World) (h1 : w.heap[b1]? = some (.cells #[.int .i64 lo] 3 (0, 0))) (h2 : w.heap[b2]? = some (.cells #[.int .i64 hi] 3 (0, 0))) :
    Calls Try.prog 45 #[.int .i64 n, .pointer (some ⟨b1, 0, none⟩), .pointer (some ⟨b2, 0, none⟩)] w fun e w' => e = .returned (.int .i64 (mn (mx n lo) hi)) ∧ w = w' := by
  have c1 : w.cell? ⟨b1, 0, none⟩ = some (.int .i64 lo) := (blk_cell h1 0).trans rfl
  have c2 : w.cell? ⟨b2, 0, none⟩ = some (.int .i64 hi) := (blk_cell h2 0).trans rfl
  clear h1 h2
  go_enter Try.func45, Try.ntmps45
  go_wp2
  all_goals
    go_ret
    refine ⟨congrArg (fun z => Ending.returned (.int .i64 z)) ?_, rfl⟩
    unfold mn mx
    first | omega | ((repeat' split) <;> first | omega | (split at * <;> omega))
set_option maxRecDepth 100000 in
set_option maxHeartbeats 2000000 in
theorem est_in (K C lo hi : Int) (A : Option Addr) (c : Nat) (H : List Int) (b1 b2 : Nat) (r : Int) (w : World) (hr : Kd.C (Kd.int .i64) w A H.length H) (hc : H.length ≤ c) (h1 : w.heap[b1]? = some (.cells #[.int .i64 lo] 3 (0, 0))) (h2 : w.heap[b2]? = some (.cells #[.int .i64 hi] 3 (0, 0))) (h : estG K H lo hi = some r) :
    Calls Try.prog 44 #[.agg #[.int .i64 K, .int .i64 C, .slice A H.length c], .func (.func 45) #[] #[.pointer (some ⟨b1, 0, none⟩), .pointer (some ⟨b2, 0, none⟩)]] w fun e w' => e = .returned (.int .i64 r) ∧ Below w.heap.size w w' := by
  have hB : Below w.heap.size w (w.alloc (.cells #[.int .i64 K, .int .i64 C, .slice A H.length c] 24)) := (Below.refl _ w).alloc (Nat.le_refl _) _
  have k1 := Aside0.mk ((hB.block b1 (Array.getElem?_eq_some_iff.1 h1).1).trans h1)
  have k2 := Aside0.mk ((hB.block b2 (Array.getElem?_eq_some_iff.1 h2).1).trans h2)
  have HB := Aside0.mk hB
  have hm := hr.2.1
  clear h1 h2 hB
  unfold estG at h
  by_cases c1 : (H.length : Int) < K
  · rw [if_pos c1] at h
    cases h
    have t1 : decide ((H.length : Int) < K) = true := decide_eq_true c1
    go_enter Try.func44, Try.ntmps44
    go_wp2
    go_ret
    exact ⟨rfl, HB.out⟩
  · rw [if_neg c1] at h
    split at h
    case isFalse => cases h
    rename_i hg
    obtain ⟨g0, g1, g2, g3, g4⟩ := hg
    cases h
    have t1 : decide ((H.length : Int) < K) = false := decide_eq_false c1
    obtain ⟨ad, rfl, q0⟩ := Kd.at_int (Kd.C_below hr HB.out) ((H.length : Int) - 1) (by omega) (by omega)
    rw [show ((H.length : Int) - 1).toNat = H.length - 1 by omega] at q0
    generalize rd H ((H.length : Int) - 1) = g at *
    have p1 : 0 ≤ (K - 1) * 4294967296 := by omega
    have p2 : (K - 1) * 4294967296 ≤ 4294967296000 := by omega
    have p3 : 1 ≤ g + 1 := by omega
    have p4 : (H.length : Int) - 1 < (H.length : Int) := by omega
    have p5 : 0 ≤ (H.length : Int) - 1 := by omega
    have p6 : 1 ≤ (H.length : Int) := by omega
    have p7 : ¬ (g + 1 = 0) := by omega
    go_enter Try.func44, Try.ntmps44
    go_wp2_with (refine (est_clo _ lo hi b1 b2 _ k1.out k2.out).mono ?_; rintro e w' ⟨rfl, rfl⟩)
    go_ret
    exact ⟨rfl, HB.out⟩
set_option maxRecDepth 100000 in
set_option maxHeartbeats 4000000 in
theorem kmv_Estimate.calls (k : Nat) (a0_0 a0_1 : Int) (A0_2 : Option Addr) (c0_2 : Nat) (l0_2 : List Int) (r1 r2 : Int) (w : World) (hr0_2 : Kd.C (Kd.int .i64) w A0_2 l0_2.length l0_2) (hc0_2 : l0_2.length ≤ c0_2) (h : kmv_Estimate.f k a0_0 a0_1 l0_2 = some (r1, r2)) :
    Calls Try.prog 28 #[.agg #[.int .i64 a0_0, .int .i64 a0_1, .slice A0_2 l0_2.length c0_2]] w fun e w' => e = .returned (.tuple #[.int .i64 r1, .int .i64 r2]) ∧ Below w.heap.size w w' := by
  unfold kmv_Estimate.f at h
  replace h := Option.bind_eq_some_iff.1 h
  obtain ⟨t, ht, h⟩ := h
  have HR := Aside0.mk hr0_2
  have HT := Aside0.mk ht
  clear hr0_2 ht
  obtain ⟨W1, hW1⟩ : ∃ W1, W1 = w.alloc (.cells #[.int .i64 a0_0, .int .i64 a0_1, .slice A0_2 l0_2.length c0_2] 24) := ⟨_, rfl⟩
  have HB1 : Aside0 (Below w.heap.size w W1) := ⟨by rw [hW1]; exact (Below.refl _ w).alloc (Nat.le_refl _) _⟩
  have K1 : Aside0 (W1.heap[w.heap.size]? = some (.cells #[.int .i64 a0_0, .int .i64 a0_1, .slice A0_2 l0_2.length c0_2] 24 (0, 0))) := ⟨by rw [hW1]; exact World.alloc_heap_new w _⟩
  go_enter Try.func28, Try.ntmps28
  go_wp2_with fail
  rw [← hW1]
  refine (kmv_Check.calls k a0_0 a0_1 _ _ l0_2 t _ (Kd.C_below HR.out HB1.out) hc0_2 HT.out).mono ?_
  rintro e W2 ⟨rfl, hb2⟩
  have HB2 := Aside0.mk (HB1.out.trans (hb2.mono HB1.out.size))
  have k2 := (hb2.block _ (Array.getElem?_eq_some_iff.1 K1.out).1).trans K1.out
  clear hb2 HB1 K1 hW1 W1
  have K2 := Aside0.mk k2
  have q0 : W2.cell? ⟨w.heap.size, 0, none⟩ = some (.int .i64 a0_0) := (blk_cell k2 0).trans rfl
  have q1 : W2.cell? ⟨w.heap.size, 1, none⟩ = some (.int .i64 a0_1) := (blk_cell k2 1).trans rfl
  have q2 : W2.cell? ⟨w.heap.size, 2, none⟩ = some (.slice A0_2 l0_2.length c0_2) := (blk_cell k2 2).trans rfl
  clear k2
  by_cases c1 : t = 0
  · rw [if_pos c1] at h
    have c1b : (t != 0) = false := bne_eq_false_iff_eq.mpr c1
    clear c1
    replace h := Option.bind_eq_some_iff.1 h
    obtain ⟨⟨lo, hi⟩, hp, h⟩ := h
    replace h := Option.bind_eq_some_iff.1 h
    obtain ⟨n, hn, h⟩ := h
    cases h
    have HP := Aside0.mk hp
    have HN := Aside0.mk hn
    clear hp hn
    go_wp2_with fail
    refine (kmv_bounds.calls a0_0 a0_1 _ _ l0_2 lo hi _ (Kd.C_below HR.out HB2.out) hc0_2 HP.out).mono ?_
    rintro e W3 ⟨rfl, hb3⟩
    have HB3 := Aside0.mk (HB2.out.trans (hb3.mono HB2.out.size))
    have k3 := (hb3.block _ (Array.getElem?_eq_some_iff.1 K2.out).1).trans K2.out
    clear hb3 HB2 K2 q0 q1 q2
    have hlt3 := (Array.getElem?_eq_some_iff.1 k3).1
    have q0 : W3.cell? ⟨w.heap.size, 0, none⟩ = some (.int .i64 a0_0) := (blk_cell k3 0).trans rfl
    have q1 : W3.cell? ⟨w.heap.size, 1, none⟩ = some (.int .i64 a0_1) := (blk_cell k3 1).trans rfl
    have q2 : W3.cell? ⟨w.heap.size, 2, none⟩ = some (.slice A0_2 l0_2.length c0_2) := (blk_cell k3 2).trans rfl
    clear k3
    go_wp2_with fail
    have hbx : Below W3.heap.size W3 ((W3.alloc (.cells #[.int .i64 lo] 3)).alloc (.cells #[.int .i64 hi] 3)) := ((Below.refl _ W3).alloc (Nat.le_refl _) _).alloc (by simp) _
    have b2 := World.alloc_heap_new (W3.alloc (.cells #[.int .i64 lo] 3)) (.cells #[.int .i64 hi] 3)
    rw [World.size_alloc] at b2
    refine (est_in a0_0 a0_1 lo hi A0_2 c0_2 l0_2 W3.heap.size (W3.heap.size + 1) r1 _ (Kd.C_below (Kd.C_below HR.out HB3.out) hbx) hc0_2 (blk_alloc (World.alloc_heap_new W3 _) _) b2 HN.out).mono ?_
    rintro e W4 ⟨rfl, hb4⟩
    have HB4 := HB3.out.trans ((hbx.trans (hb4.mono (by simp; omega))).mono HB3.out.size)
    clear hb4 hbx b2
    go_wp2
    go_ret2
    exact ⟨rfl, HB4⟩
  · rw [if_neg c1] at h
    have c1b : (t != 0) = true := bne_iff_ne.mpr c1
    clear c1
    cases h
    go_wp2
    go_ret2
    exact ⟨rfl, HB2.out⟩
end Go.Proofs.Ythblifjeecdhcaa.Hand
