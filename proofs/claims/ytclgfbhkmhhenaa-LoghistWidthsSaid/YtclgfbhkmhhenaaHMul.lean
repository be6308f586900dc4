/- The contract of ratio.Mul where the product fits: what the Go code returns. No further condition. -/
import Derived.Test.YtclgfbhkmhhenaaHCnt
import Derived.Test.YtclgfbhkmhhenaaAA
import Derived.Test.YtclgfbhkmhhenaaAx16
import Derived.WalkKit
import Derived.Defers
import Derived.Recover
import Derived.Laws.Pointers
namespace Go.Proofs.Ytclgfbhkmhhenaa.Hand
open Go.RowKit Go.Proofs.YtclgfbhkmhhenaaW.PrintWords Go.Proofs.YtclgfbhkmhhenaaW.PrintMore Go.Proofs.Ytclgfbhkmhhenaa.A
set_option linter.unusedVariables false
set_option linter.unusedSimpArgs false
def ratio_Mul.f (k : Nat) (a0_0 a0_1 a1_0 a1_1 : Int) : Option (Int × Int × Int) := (ratio_valid.f k a0_0 a0_1 a1_0 a1_1).bind fun v => if v = true then ((ratio_multiple.f k a0_0 a0_1 a1_0 a1_1).bind fun r => some (r.1, r.2, 0)) else some (0, 0, 1)
theorem ratio_Mul.mono : ∀ a0 a1 a2 a3 k, LeO (ratio_Mul.f k a0 a1 a2 a3) (ratio_Mul.f (k + 1) a0 a1 a2 a3) := by
  intro a0 a1 a2 a3 k
  unfold ratio_Mul.f
  refine LeO.bind (ratio_valid.mono _ _ _ _ _) (fun v => ?_)
  split
  · exact LeO.bind (ratio_multiple.mono _ _ _ _ _) (fun r => LeO.refl _)
  · exact LeO.refl _
theorem catch_idle (p q : Addr) (w : World) :
    CallsD Try.prog 100 #[.pointer (some p), .pointer (some q)] .returning w fun e u' w' => e = .returned (.tuple #[]) ∧ u' = .returning ∧ w' = w := by
  refine callsD_of_wpS Try.func100 rfl fun c₀ cs hu => ?_
  apply wpS_seq
  apply wpS_region
  simp [wpOpsS, go_sem, recoverD, hu, Try.ntmps100, Exit.thenS]
  refine wpS_cond (t := false) (by simp [Act.eval, Array.replicate]) ?_
  simp only [Bool.false_eq_true, if_false]
  refine wpS_of_wp (wp_skip ?_)
  cases c₀
  simp_all [bodyPostS, results, Try.results100]
set_option maxHeartbeats 2000000 in
theorem mul1_calls (k : Nat) (a0_0 a0_1 a1_0 a1_1 r1 r2 : Int) (b c : Nat) (w : World) (hb : w.heap[b]? = some (.cells #[.int .i64 a0_0, .int .i64 a0_1] 42 (0, 0))) (hc : w.heap[c]? = some (.cells #[.int .i64 a1_0, .int .i64 a1_1] 42 (0, 0))) (h : ratio_multiple.f k a0_0 a0_1 a1_0 a1_1 = some (r1, r2)) :
    Calls Try.prog 87 #[.pointer (some ⟨b, 0, none⟩), .pointer (some ⟨c, 0, none⟩)] w fun e w' => e = .returned (.agg #[.int .i64 r1, .int .i64 r2]) ∧ Below w.heap.size w w' := by
  have lb := blk_lt hb
  have lc := blk_lt hc
  have hw1 : Below w.heap.size w (w.alloc (.cells #[.int .i64 0, .int .i64 0] 42)) := bA (Below.refl _ _) _
  have kb := (hw1.block _ lb).trans hb
  have kc := (hw1.block _ lc).trans hc
  have n1 := Aside0.mk (World.alloc_heap_new w (.cells #[.int .i64 0, .int .i64 0] 42))
  have c0 : (w.alloc (.cells #[.int .i64 0, .int .i64 0] 42)).cell? ⟨b, 0, none⟩ = some (.int .i64 a0_0) := (blk_cell kb 0).trans rfl
  have c1 : (w.alloc (.cells #[.int .i64 0, .int .i64 0] 42)).cell? ⟨b, 1, none⟩ = some (.int .i64 a0_1) := (blk_cell kb 1).trans rfl
  have c2 : (w.alloc (.cells #[.int .i64 0, .int .i64 0] 42)).cell? ⟨c, 0, none⟩ = some (.int .i64 a1_0) := (blk_cell kc 0).trans rfl
  have c3 : (w.alloc (.cells #[.int .i64 0, .int .i64 0] 42)).cell? ⟨c, 1, none⟩ = some (.int .i64 a1_1) := (blk_cell kc 1).trans rfl
  have HW := Aside0.mk hw1
  have H := Aside0.mk h
  clear hb hc kb kc h hw1
  go_enter Try.func87, Try.ntmps87
  go_wp2_with fail
  refine (ratio_multiple.calls k a0_0 a0_1 a1_0 a1_1 r1 r2 _ H.out).mono ?_
  rintro e W ⟨rfl, hb⟩
  have n2 := (hb.block _ (blk_lt n1.out)).trans n1.out
  have z0 : W.cell? ⟨w.heap.size, 0, none⟩ = some (.int .i64 0) := (blk_cell n2 0).trans rfl
  have z1 : W.cell? ⟨w.heap.size, 1, none⟩ = some (.int .i64 0) := (blk_cell n2 1).trans rfl
  have f0 := blk_frozen n2 0
  have f1 := blk_frozen n2 1
  have N2 := Aside0.mk n2
  have HB := Aside0.mk (HW.out.trans (hb.mono HW.out.size))
  clear hb n2 c0 c1 c2 c3
  go_wp2
  refine bodyPost_ret (results_cell_row rfl _ _ w.heap.size 42 #[.int .i64 r1, .int .i64 r2] (0, 0) _ rfl (by refine blk_put (cs := #[.int .i64 r1, .int .i64 0]) ?_ 1 _ rfl; refine blk_put (cs := #[.int .i64 0, .int .i64 0]) ?_ 0 _ rfl; exact N2.out) Try.underlying42 rfl (by kernel_rfl)) rfl ?_
  exact ⟨rfl, (HB.out.setCell (Nat.le_refl _) _).setCell (Nat.le_refl _) _⟩
set_option maxHeartbeats 4000000 in
theorem attempt_mul (k : Nat) (a0_0 a0_1 a1_0 a1_1 r1 r2 : Int) (b c : Nat) (w : World) (hb : w.heap[b]? = some (.cells #[.int .i64 a0_0, .int .i64 a0_1] 42 (0, 0))) (hc : w.heap[c]? = some (.cells #[.int .i64 a1_0, .int .i64 a1_1] 42 (0, 0))) (h : ratio_multiple.f k a0_0 a0_1 a1_0 a1_1 = some (r1, r2)) :
    Calls Try.prog 86 #[.func (.func 87) #[] #[.pointer (some ⟨b, 0, none⟩), .pointer (some ⟨c, 0, none⟩)]] w fun e w' => e = .returned (.tuple #[.agg #[.int .i64 r1, .int .i64 r2], .int .i64 0]) ∧ Below w.heap.size w w' := by
  have hmf : ∀ (fn : Fn) (first cap : Array Value) (w : World), (Instr.makeFunc fn first cap).run Try.prog w = .ok (.func fn first cap) w := fun _ _ _ _ => rfl
  have H := Aside0.mk h
  have lb := blk_lt hb
  have lc := blk_lt hc
  have hw1 : Below w.heap.size w ((w.alloc (.cells #[.int .i64 0, .int .i64 0] 42)).alloc (.cells #[.int .i64 0] 22)) := bA (bA (Below.refl _ _) _) _
  have kb := Aside0.mk ((hw1.block _ lb).trans hb)
  have kc := Aside0.mk ((hw1.block _ lc).trans hc)
  have n1 := World.alloc_heap_new w (.cells #[.int .i64 0, .int .i64 0] 42)
  have n2 := World.alloc_heap_new (w.alloc (.cells #[.int .i64 0, .int .i64 0] 42)) (.cells #[.int .i64 0] 22)
  rw [World.size_alloc] at n2
  have N1 := Aside0.mk (blk_alloc n1 (.cells #[.int .i64 0] 22))
  have N2 := Aside0.mk n2
  have HW := Aside0.mk hw1
  clear hb hc h hw1 n1 n2
  go_enter_defers Try.func86, Try.ntmps86
  go_wp2_with fail
  refine (mul1_calls k a0_0 a0_1 a1_0 a1_1 r1 r2 b c _ kb.out kc.out H.out).mono ?_
  rintro e W ⟨rfl, hb⟩
  have n1 := (hb.block _ (blk_lt N1.out)).trans N1.out
  have n2 := (hb.block _ (blk_lt N2.out)).trans N2.out
  have z0 : W.cell? ⟨w.heap.size, 0, none⟩ = some (.int .i64 0) := (blk_cell n1 0).trans rfl
  have z1 : W.cell? ⟨w.heap.size, 1, none⟩ = some (.int .i64 0) := (blk_cell n1 1).trans rfl
  have z2 : W.cell? ⟨w.heap.size + 1, 0, none⟩ = some (.int .i64 0) := (blk_cell n2 0).trans rfl
  have f0 := blk_frozen n1 0
  have f1 := blk_frozen n1 1
  have f2 := blk_frozen n2 0
  have M1 := Aside0.mk n1
  have M2 := Aside0.mk n2
  have HB := Aside0.mk (HW.out.trans (hb.mono HW.out.size))
  clear hb n1 n2
  go_wp2
  obtain ⟨W5, hW5⟩ : ∃ W5, W5 = ((((W.setCell ⟨w.heap.size, 0, none⟩ (.int .i64 r1)).setCell ⟨w.heap.size, 1, none⟩ (.int .i64 r2)).setCell ⟨w.heap.size, 0, none⟩ (.int .i64 r1)).setCell ⟨w.heap.size, 1, none⟩ (.int .i64 r2)).setCell ⟨w.heap.size + 1, 0, none⟩ (.int .i64 0) := ⟨_, rfl⟩
  have B5 : Below w.heap.size w W5 := by rw [hW5]; exact ((((HB.out.setCell (Nat.le_refl _) _).setCell (Nat.le_refl _) _).setCell (Nat.le_refl _) _).setCell (Nat.le_refl _) _).setCell (Nat.le_succ _) _
  have K5 : W5.heap[w.heap.size]? = some (.cells #[.int .i64 r1, .int .i64 r2] 42 (0, 0)) := by
    rw [hW5]
    refine (Below.heap_setCell _ _ _ w.heap.size (show w.heap.size ≠ w.heap.size + 1 by omega)).trans ?_
    exact blk_put (blk_put (blk_put (blk_put M1.out 0 _ rfl) 1 _ rfl) 0 _ rfl) 1 _ rfl
  have K6 : W5.heap[w.heap.size + 1]? = some (.cells #[.int .i64 0] 22 (0, 0)) := by
    rw [hW5]
    refine blk_put (cs := #[.int .i64 0]) ?_ 0 _ rfl
    have hne : w.heap.size + 1 ≠ w.heap.size := by omega
    exact (Below.heap_setCell _ _ _ _ hne).trans ((Below.heap_setCell _ _ _ _ hne).trans ((Below.heap_setCell _ _ _ _ hne).trans ((Below.heap_setCell _ _ _ _ hne).trans M2.out)))
  rw [← hW5]
  clear hW5 z0 z1 z2 f0 f1 f2 M1 M2 HB
  have y0 : W5.cell? ⟨w.heap.size, 0, none⟩ = some (.int .i64 r1) := (blk_cell K5 0).trans rfl
  have y1 : W5.cell? ⟨w.heap.size, 1, none⟩ = some (.int .i64 r2) := (blk_cell K5 1).trans rfl
  have y2 : W5.cell? ⟨w.heap.size + 1, 0, none⟩ = some (.int .i64 0) := (blk_cell K6 0).trans rfl
  refine leaves_cons (f := 100) (args := #[.pointer (some ⟨w.heap.size, 0, none⟩), .pointer (some ⟨w.heap.size + 1, 0, none⟩)]) (by simp) (by simp [go_sem]) ?_
  refine (catch_idle ⟨w.heap.size, 0, none⟩ ⟨w.heap.size + 1, 0, none⟩ _).mono ?_
  rintro e u' w'' ⟨rfl, rfl, rfl⟩
  simp [Leaves, settle, results, Try.results86, go_sem, y0, y1, y2]
  exact B5
set_option maxHeartbeats 4000000 in
theorem ratio_Mul.calls (k : Nat) (a0_0 a0_1 a1_0 a1_1 r1 r2 r3 : Int) (w : World) (h : ratio_Mul.f k a0_0 a0_1 a1_0 a1_1 = some (r1, r2, r3)) :
    Calls Try.prog 71 #[.agg #[.int .i64 a0_0, .int .i64 a0_1], .agg #[.int .i64 a1_0, .int .i64 a1_1]] w fun e w' => e = .returned (.tuple #[.agg #[.int .i64 r1, .int .i64 r2], .int .i64 r3]) ∧ Below w.heap.size w w' := by
  have hmf : ∀ (fn : Fn) (first cap : Array Value) (w : World), (Instr.makeFunc fn first cap).run Try.prog w = .ok (.func fn first cap) w := fun _ _ _ _ => rfl
  unfold ratio_Mul.f at h
  obtain ⟨v, hv, h⟩ := Option.bind_eq_some_iff.1 h
  have HV := Aside0.mk hv
  clear hv
  have hw1 : Below w.heap.size w (((w.alloc (.cells #[.int .i64 a0_0, .int .i64 a0_1] 42)).alloc (.cells #[.int .i64 a1_0, .int .i64 a1_1] 42)).alloc (.cells #[.int .i64 0, .int .i64 0] 42)) := bA (bA (bA (Below.refl _ _) _) _) _
  have n1 := World.alloc_heap_new w (.cells #[.int .i64 a0_0, .int .i64 a0_1] 42)
  have n2 := World.alloc_heap_new (w.alloc (.cells #[.int .i64 a0_0, .int .i64 a0_1] 42)) (.cells #[.int .i64 a1_0, .int .i64 a1_1] 42)
  have n3 := World.alloc_heap_new ((w.alloc (.cells #[.int .i64 a0_0, .int .i64 a0_1] 42)).alloc (.cells #[.int .i64 a1_0, .int .i64 a1_1] 42)) (.cells #[.int .i64 0, .int .i64 0] 42)
  rw [World.size_alloc] at n2
  rw [World.size_alloc, World.size_alloc] at n3
  have N1 := Aside0.mk (blk_alloc (blk_alloc n1 (.cells #[.int .i64 a1_0, .int .i64 a1_1] 42)) (.cells #[.int .i64 0, .int .i64 0] 42))
  have N2 := Aside0.mk (blk_alloc n2 (.cells #[.int .i64 0, .int .i64 0] 42))
  have N3 := Aside0.mk n3
  have HW := Aside0.mk hw1
  clear hw1 n1 n2 n3
  go_enter Try.func71, Try.ntmps71
  go_wp2_with fail
  refine (ratio_valid.calls k a0_0 a0_1 a1_0 a1_1 v _ HV.out).mono ?_
  rintro e W ⟨rfl, hb⟩
  have K1 := Aside0.mk ((hb.block _ (blk_lt N1.out)).trans N1.out)
  have K2 := Aside0.mk ((hb.block _ (blk_lt N2.out)).trans N2.out)
  have k3 := (hb.block _ (blk_lt N3.out)).trans N3.out
  have HB := Aside0.mk (HW.out.trans (hb.mono HW.out.size))
  have z0 : W.cell? ⟨w.heap.size + 1 + 1, 0, none⟩ = some (.int .i64 0) := (blk_cell k3 0).trans rfl
  have z1 : W.cell? ⟨w.heap.size + 1 + 1, 1, none⟩ = some (.int .i64 0) := (blk_cell k3 1).trans rfl
  have f0 := blk_frozen k3 0
  have f1 := blk_frozen k3 1
  have K3 := Aside0.mk k3
  clear hb k3 N1 N2 N3 HW
  by_cases c1 : v = true
  · subst c1
    rw [if_pos rfl] at h
    obtain ⟨⟨q1, q2⟩, hq, h⟩ := Option.bind_eq_some_iff.1 h
    cases h
    have HQ := Aside0.mk hq
    clear hq
    go_wp2_with fail
    refine (attempt_mul k a0_0 a0_1 a1_0 a1_1 q1 q2 _ _ W K1.out K2.out HQ.out).mono ?_
    rintro e W1 ⟨rfl, hb⟩
    have k3 := (hb.block _ (blk_lt K3.out)).trans K3.out
    have HB1 := Aside0.mk (HB.out.trans (hb.mono HB.out.size))
    clear z0 z1 f0 f1 hb
    have z0 : W1.cell? ⟨w.heap.size + 1 + 1, 0, none⟩ = some (.int .i64 0) := (blk_cell k3 0).trans rfl
    have z1 : W1.cell? ⟨w.heap.size + 1 + 1, 1, none⟩ = some (.int .i64 0) := (blk_cell k3 1).trans rfl
    have f0 := blk_frozen k3 0
    have f1 := blk_frozen k3 1
    have M3 := Aside0.mk k3
    clear k3
    go_wp2
    have F3 : ((W1.setCell ⟨w.heap.size + 1 + 1, 0, none⟩ (.int .i64 q1)).setCell ⟨w.heap.size + 1 + 1, 1, none⟩ (.int .i64 q2)).heap[w.heap.size + 1 + 1]? = some (.cells #[.int .i64 q1, .int .i64 q2] 42 (0, 0)) := blk_put (blk_put M3.out 0 _ rfl) 1 _ rfl
    have B3 : Below w.heap.size w ((W1.setCell ⟨w.heap.size + 1 + 1, 0, none⟩ (.int .i64 q1)).setCell ⟨w.heap.size + 1 + 1, 1, none⟩ (.int .i64 q2)) := (HB1.out.setCell (show w.heap.size ≤ w.heap.size + 1 + 1 by omega) _).setCell (show w.heap.size ≤ w.heap.size + 1 + 1 by omega) _
    generalize (W1.setCell ⟨w.heap.size + 1 + 1, 0, none⟩ (.int .i64 q1)).setCell ⟨w.heap.size + 1 + 1, 1, none⟩ (.int .i64 q2) = WE at F3 B3 ⊢
    have y0 : WE.cell? ⟨w.heap.size + 1 + 1, 0, none⟩ = some (.int .i64 q1) := (blk_cell F3 0).trans rfl
    have y1 : WE.cell? ⟨w.heap.size + 1 + 1, 1, none⟩ = some (.int .i64 q2) := (blk_cell F3 1).trans rfl
    exact bodyPost_ret (v := .tuple #[.agg #[.int .i64 q1, .int .i64 q2], .int .i64 0]) (by simp [results, Try.results71, go_sem, y0, y1]) rfl ⟨rfl, B3⟩
  · have c1 : v = false := by simpa using c1
    subst c1
    rw [if_neg (by simp)] at h
    cases h
    go_wp2
    have F3 : ((W.setCell ⟨w.heap.size + 1 + 1, 0, none⟩ (.int .i64 0)).setCell ⟨w.heap.size + 1 + 1, 1, none⟩ (.int .i64 0)).heap[w.heap.size + 1 + 1]? = some (.cells #[.int .i64 0, .int .i64 0] 42 (0, 0)) := blk_put (blk_put K3.out 0 _ rfl) 1 _ rfl
    have B3 : Below w.heap.size w ((W.setCell ⟨w.heap.size + 1 + 1, 0, none⟩ (.int .i64 0)).setCell ⟨w.heap.size + 1 + 1, 1, none⟩ (.int .i64 0)) := (HB.out.setCell (show w.heap.size ≤ w.heap.size + 1 + 1 by omega) _).setCell (show w.heap.size ≤ w.heap.size + 1 + 1 by omega) _
    generalize (W.setCell ⟨w.heap.size + 1 + 1, 0, none⟩ (.int .i64 0)).setCell ⟨w.heap.size + 1 + 1, 1, none⟩ (.int .i64 0) = WE at F3 B3 ⊢
    have y0 : WE.cell? ⟨w.heap.size + 1 + 1, 0, none⟩ = some (.int .i64 0) := (blk_cell F3 0).trans rfl
    have y1 : WE.cell? ⟨w.heap.size + 1 + 1, 1, none⟩ = some (.int .i64 0) := (blk_cell F3 1).trans rfl
    exact bodyPost_ret (v := .tuple #[.agg #[.int .i64 0, .int .i64 0], .int .i64 1]) (by simp [results, Try.results71, go_sem, y0, y1]) rfl ⟨rfl, B3⟩
end Go.Proofs.Ytclgfbhkmhhenaa.Hand
