/- Printed by a program of this session: functions of the law's Go code as Lean functions, and that the Go code computes them. No condition beyond those in the statements. -/
import Derived.Test.YtclgfbhkmhhenaaPA
import Derived.Test.YtclgfbhkmhhenaaPx31
namespace Go.Proofs.Ytclgfbhkmhhenaa.P
open Go.RowKit Go.Proofs.YtclgfbhkmhhenaaW.PrintWords Go.Proofs.YtclgfbhkmhhenaaW.PrintLast Go.Proofs.YtclgfbhkmhhenaaW.PrintMore Go.Proofs.Ytclgfbhkmhhenaa.Hand Go.Proofs.Ytclgfbhkmhhenaa.A Go.Proofs.Ytclgfbhkmhhenaa.B
attribute [local go_sem] max2_int min2_int max_two min_two max_three min_three max_four min_four   -- for this text's walks alone
set_option linter.unusedVariables false
set_option linter.unusedSimpArgs false

/-! ### lookoutlaw12_build: function 35 -/
def lookoutlaw12_build.l0 : Nat → Int → List Int → Int → Int → Int → Int → Int → Int → Int → List (S66) → Option (Int × Int × Int × Int × Int × (List (S66)) × Bool)
  | 0, _, _, _, _, _, _, _, _, _, _ => none
  | k + 1, x7, x15, x16, x17, x157000, x157001, x157002, x157003, x157004, x157005 => if x17 < x16 then (if 0 ≤ x17 then (if x17 < (x15.length : Int) then (if x7 = 0 then ((loghist_Add.f k x157000 x157001 x157002 x157003 x157004 x157005 (rd x15 x17) 1).bind fun bt158 => (lookoutlaw12_build.l0 k bt158.2.2.2.2.2.2 x15 x16 (wrap64 (x17 + 1)) bt158.1 bt158.2.1 bt158.2.2.1 bt158.2.2.2.1 bt158.2.2.2.2.1 bt158.2.2.2.2.2.1)) else (some (0, 0, 0, 0, 0, ([] : List (S66)), false))) else (none)) else (none)) else (some (x157000, x157001, x157002, x157003, x157004, x157005, (x7 == 0)))
def lookoutlaw12_build.f (k : Nat) (a0 : Int) (l1 : List Int) : Option (Int × Int × Int × Int × Int × (List (S66)) × Bool) := (loghist_New.f a0).bind fun bt147 => (lookoutlaw12_build.l0 k bt147.2.2.2.2.2.2 l1 (l1.length : Int) 0 bt147.1 bt147.2.1 bt147.2.2.1 bt147.2.2.2.1 bt147.2.2.2.2.1 bt147.2.2.2.2.2.1)
theorem lookoutlaw12_build.mono_l : ∀ k, (∀ y0 y1 y2 y3 y4 y5 y6 y7 y8 y9, LeO (lookoutlaw12_build.l0 k y0 y1 y2 y3 y4 y5 y6 y7 y8 y9) (lookoutlaw12_build.l0 (k + 1) y0 y1 y2 y3 y4 y5 y6 y7 y8 y9))
  | 0 => fun _ _ _ _ _ _ _ _ _ _ r h => by simp [lookoutlaw12_build.l0] at h
  | k + 1 => by
    have ih0 := lookoutlaw12_build.mono_l k
    · intro y0 y1 y2 y3 y4 y5 y6 y7 y8 y9
      unfold lookoutlaw12_build.l0
      repeat' first
      | (with_reducible exact ih0 _ _ _ _ _ _ _ _ _ _)
      | (with_reducible exact loghist_Add.mono _ _ _ _ _ _ _ _ _)
      | (with_reducible exact LeO.refl _)
      | (with_reducible exact LeO.none _)
      | (with_reducible refine LeO.ite ?_ ?_)
      | (with_reducible refine LeO.bind ?_ (fun _ => ?_))
      | exact ih0 _ _ _ _ _ _ _ _ _ _
      | exact loghist_Add.mono _ _ _ _ _ _ _ _ _
      | exact LeO.none _
      | refine LeO.ite ?_ ?_
      | refine LeO.bind ?_ (fun _ => ?_)
theorem lookoutlaw12_build.mono : ∀ a0 a1 k, LeO (lookoutlaw12_build.f k a0 a1) (lookoutlaw12_build.f (k + 1) a0 a1) := by
  intro a0 a1 k
  have ih0 := lookoutlaw12_build.mono_l k
  unfold lookoutlaw12_build.f
  repeat' first
      | (with_reducible exact ih0 _ _ _ _ _ _ _ _ _ _)
      | (with_reducible exact loghist_Add.mono _ _ _ _ _ _ _ _ _)
      | (with_reducible exact LeO.refl _)
      | (with_reducible exact LeO.none _)
      | (with_reducible refine LeO.ite ?_ ?_)
      | (with_reducible refine LeO.bind ?_ (fun _ => ?_))
      | exact ih0 _ _ _ _ _ _ _ _ _ _
      | exact loghist_Add.mono _ _ _ _ _ _ _ _ _
      | exact LeO.none _
      | refine LeO.ite ?_ ?_
      | refine LeO.bind ?_ (fun _ => ?_)
set_option maxHeartbeats 8000000 in
set_option maxRecDepth 100000 in
theorem lookoutlaw12_build.calls (k : Nat) (a0 : Int) (A1 : Option Addr) (c1 : Nat) (l1 : List Int) (r1 : Int) (r2 : Int) (r3 : Int) (r4 : Int) (r5 : Int) (r6 : List (S66)) (r7 : Bool) (w : World) (hr1 : Kd.C (Kd.int .i64) w A1 l1.length l1) (hc1 : l1.length ≤ c1) (h : lookoutlaw12_build.f k a0 l1 = some (r1, r2, r3, r4, r5, r6, r7)) :
    Calls Try.prog 35 #[.int .i64 a0, .slice A1 l1.length c1] w fun e w' => ∃ v5_ : Value, e = .returned (.tuple #[.agg #[.int .i64 r1, .int .i64 r2, .int .i64 r3, .int .i64 r4, .int .i64 r5, v5_], .bool r7]) ∧ Kd.R k66 66 w' w.heap.size (fun _ => True) v5_ r6 ∧ Below w.heap.size w w' := by
  have hu29 := Try.underlying29
  have HR1 := Aside0.mk hr1
  have HC1 := Aside0.mk hc1
  clear hr1 hc1
  have HB := Aside0.mk (Below.refl w.heap.size w)
  have H : ((loghist_New.f a0).bind fun bt147 => (lookoutlaw12_build.l0 k bt147.2.2.2.2.2.2 l1 (l1.length : Int) 0 bt147.1 bt147.2.1 bt147.2.2.1 bt147.2.2.2.1 bt147.2.2.2.2.1 bt147.2.2.2.2.2.1)) = some (r1, r2, r3, r4, r5, r6, r7) := h
  clear h
  replace H := Option.bind_eq_some_iff.mp H
  obtain ⟨⟨t147, t148, t149, t150, t151, t152, t155⟩, A30, H⟩ := H
  replace H : (lookoutlaw12_build.l0 k t155 l1 (l1.length : Int) 0 t147 t148 t149 t150 t151 t152) = some (r1, r2, r3, r4, r5, r6, r7) := H
  have A3 := Aside0.mk A30
  clear A30
  have H' := Aside0.mk H
  clear H
  go_enter Try.func35, Try.ntmps35
  go_wp2_with (first | ((with_reducible refine gate_dst (N := 4) rfl ?_); refine box_event ?hg (N := 4) ?hd (cs := #[.int .i64 0, .int .i64 0, .int .i64 0, .int .i64 0, .int .i64 0, .slice none 0 0]) (t := 29) ?hr ?_; (case hd => rfl); (case hg => rfl); (case hr => first | (go_simp; done) | (go_simp; rfl)); intro gb146 hg w4 hbox hb; have n0_ := Aside0.mk (below_step (by repeat (first | (with_reducible first | exact HB.out | apply below_alloc | apply pw_below_drewN | apply below_drew1) | exact HB.out)) hb); have n1_ := Aside0.mk (hbox); have n2_ := Aside0.mk ((by rw [hg]; exact (below_size (by repeat (first | (with_reducible first | exact HB.out | apply below_alloc | apply pw_below_drewN | apply below_drew1) | exact HB.out))) : w.heap.size ≤ gb146)); have n3_ := Aside0.mk ((by rw [hg]; exact (below_size (by repeat (first | (with_reducible first | exact HB.out | apply below_alloc | apply pw_below_drewN | apply below_drew1) | exact HB.out))) : w.heap.size ≤ gb146)); clear HB; have HB := n0_; have BK146 := n1_; have GW146 := n2_; have GE146 := n3_; clear n0_ n1_ n2_ n3_; clear hb hbox hg) | ((with_reducible refine gate_callee (f := 16) rfl ?_); refine goesL_ (some 12) rfl rfl Try.func16 (by kernel_rfl) rfl #[.int .i64 a0] rfl (by (try simp only [List.map_toArray, List.map_cons, List.map_nil]); first | done | rfl | (simp only [List.length_drop, List.length_take]; rfl)) ?_; (with_reducible refine (loghist_New.calls a0 t147 t148 t149 t150 t151 t152 t155 _ A3.out).mono ?_); rintro e w5 ⟨v153, rfl, ho0, hb⟩; refine ⟨_, rfl, ?_⟩; have n0_ := Aside0.mk (Kd.R_lower ho0 (below_size (by repeat (first | (with_reducible first | exact HB.out | apply below_alloc | apply pw_below_drewN | apply below_drew1 | refine below_set ?_ GE146.out) | exact HB.out)))); have n1_ := Aside0.mk (blk_below (g := gb146) (o := .cells #[.int .i64 0, .int .i64 0, .int .i64 0, .int .i64 0, .int .i64 0, .slice none 0 0] 29 (0, 0)) (by (with_reducible repeat (first | refine blk_drewN ?_ _ | refine blk_drew ?_ | refine blk_alloc ?_ _)); exact BK146.out) hb); have n2_ := Aside0.mk (below_step (by repeat (first | (with_reducible first | exact HB.out | apply below_alloc | apply pw_below_drewN | apply below_drew1 | refine below_set ?_ GE146.out) | exact HB.out)) hb); clear BK146; clear HB; have HO154 := n0_; have BK146 := n1_; have HB := n2_; clear n0_ n1_ n2_; (try clear hb); (try clear hb2); (try clear hk); (try clear hi); (try clear ho0)) | ((with_reducible refine gate_dst (N := 6) rfl ?_); refine box_event ?hg (N := 6) ?hd (cs := #[.int .i64 0, .int .i64 0, .int .i64 0, .int .i64 0, .int .i64 0, .slice none 0 0]) (t := 29) ?hr ?_; (case hd => rfl); (case hg => rfl); (case hr => first | (go_simp; done) | (go_simp; rfl)); intro gb156 hg w6 hbox hb; have n0_ := Aside0.mk (Kd.R_below (by (with_reducible repeat (first | apply Kd.R_alloc | apply Kd.R_drewN | apply Kd.R_drew)); exact HO154.out) hb); have n1_ := Aside0.mk (blk_below (g := gb146) (o := .cells #[.int .i64 0, .int .i64 0, .int .i64 0, .int .i64 0, .int .i64 0, .slice none 0 0] 29 (0, 0)) (by (with_reducible repeat (first | refine blk_drewN ?_ _ | refine blk_drew ?_ | refine blk_alloc ?_ _)); exact BK146.out) hb); have n2_ := Aside0.mk (below_step (by repeat (first | (with_reducible first | exact HB.out | apply below_alloc | apply pw_below_drewN | apply below_drew1 | refine below_set ?_ GE146.out) | exact HB.out)) hb); have n3_ := Aside0.mk (hbox); have n4_ := Aside0.mk ((by rw [hg]; exact (below_size (by repeat (first | (with_reducible first | exact HB.out | apply below_alloc | apply pw_below_drewN | apply below_drew1 | refine below_set ?_ GE146.out) | exact HB.out))) : w.heap.size ≤ gb156)); have n5_ := Aside0.mk ((by rw [hg]; exact (below_size (by repeat (first | (with_reducible first | exact HB.out | apply below_alloc | apply pw_below_drewN | apply below_drew1 | refine below_set ?_ GE146.out) | exact HB.out))) : w.heap.size ≤ gb156)); have n6_ := Aside0.mk ((by rw [hg]; exact Nat.ne_of_lt (blk_lt (g := gb146) (o := .cells #[.int .i64 0, .int .i64 0, .int .i64 0, .int .i64 0, .int .i64 0, .slice none 0 0] 29 (0, 0)) (by (with_reducible repeat (first | refine blk_drewN ?_ _ | refine blk_drew ?_ | refine blk_alloc ?_ _)); exact BK146.out)) : gb146 ≠ gb156)); have n7_ := Aside0.mk ((by rw [hg]; exact Nat.ne_of_gt (blk_lt (g := gb146) (o := .cells #[.int .i64 0, .int .i64 0, .int .i64 0, .int .i64 0, .int .i64 0, .slice none 0 0] 29 (0, 0)) (by (with_reducible repeat (first | refine blk_drewN ?_ _ | refine blk_drew ?_ | refine blk_alloc ?_ _)); exact BK146.out)) : gb156 ≠ gb146)); clear HO154; clear BK146; clear HB; have HO154 := n0_; have BK146 := n1_; have HB := n2_; have BK156 := n3_; have GW156 := n4_; have GE156 := n5_; have NB146_156 := n6_; have NB156_146 := n7_; clear n0_ n1_ n2_ n3_ n4_ n5_ n6_ n7_; clear hb hbox hg; have hnb7 := NB156_146.out; have hnc7 := NB146_156.out; have hcz8_0 : w6.cell? ⟨gb156, 0, none⟩ = some (.int .i64 0) := (blk_cell BK156.out 0).trans rfl; have hcz8_1 : w6.cell? ⟨gb156, 1, none⟩ = some (.int .i64 0) := (blk_cell BK156.out 1).trans rfl; have hcz8_2 : w6.cell? ⟨gb156, 2, none⟩ = some (.int .i64 0) := (blk_cell BK156.out 2).trans rfl; have hcz8_3 : w6.cell? ⟨gb156, 3, none⟩ = some (.int .i64 0) := (blk_cell BK156.out 3).trans rfl; have hcz8_4 : w6.cell? ⟨gb156, 4, none⟩ = some (.int .i64 0) := (blk_cell BK156.out 4).trans rfl; have hcz8_5 : w6.cell? ⟨gb156, 5, none⟩ = some (.slice none 0 0) := (blk_cell BK156.out 5).trans rfl; have hfz8_0 := blk_frozen BK156.out 0; have hfz8_1 := blk_frozen BK156.out 1; have hfz8_2 := blk_frozen BK156.out 2; have hfz8_3 := blk_frozen BK156.out 3; have hfz8_4 := blk_frozen BK156.out 4; have hfz8_5 := blk_frozen BK156.out 5; obtain ⟨Ao9, co9, eo9⟩ := Kd.R_slice HO154.out; subst eo9))
  go_loopg [7, 17] k (fun kq v7 v17 w' => ∃ (x7_1 : Int) (x17_1 : Int) (x147000_1 : Int) (x147001_1 : Int) (x147002_1 : Int) (x147003_1 : Int) (x147004_1 : Int) (x157000_1 : Int) (x157001_1 : Int) (x157002_1 : Int) (x157003_1 : Int) (x157004_1 : Int) (x157005_1 : List (S66)) (u157005 : Value), v7 = .int .i64 x7_1 ∧ v17 = .int .i64 x17_1 ∧ Aside0 (lookoutlaw12_build.l0 kq x7_1 l1 (l1.length : Int) x17_1 x157000_1 x157001_1 x157002_1 x157003_1 x157004_1 x157005_1 = some (r1, r2, r3, r4, r5, r6, r7)) ∧ Aside0 (kq ≤ k) ∧ Aside0 (Kd.R k66 66 w' w.heap.size (fun _ => True) u157005 x157005_1) ∧ Aside0 (w'.heap[gb146]? = some (.cells #[.int .i64 x147000_1, .int .i64 x147001_1, .int .i64 x147002_1, .int .i64 x147003_1, .int .i64 x147004_1, (.slice none 0 0)] 29 (0, 0))) ∧ Aside0 (w'.heap[gb156]? = some (.cells #[.int .i64 x157000_1, .int .i64 x157001_1, .int .i64 x157002_1, .int .i64 x157003_1, .int .i64 x157004_1, u157005] 29 (0, 0))) ∧ Aside0 (Below w.heap.size w w'))
  case atStart => exact ⟨(t155), (0), (0), (0), (0), (0), (0), (t147), (t148), (t149), (t150), (t151), (t152), (.slice Ao9 t152.length co9), (by first | rfl | (simp; done) | (simp [*]; done)), (by first | rfl | (simp; done) | (simp [*]; done)), H', ⟨Nat.le_refl _⟩, ⟨by (with_reducible repeat (first | apply Kd.R_alloc | apply Kd.R_drewN | apply Kd.R_drew)); exact Kd.R_mono (Kd.R_far (p := ⟨gb156, 5, none⟩) (Kd.R_far (p := ⟨gb156, 4, none⟩) (Kd.R_far (p := ⟨gb156, 3, none⟩) (Kd.R_far (p := ⟨gb156, 2, none⟩) (Kd.R_far (p := ⟨gb156, 1, none⟩) (Kd.R_far (p := ⟨gb156, 0, none⟩) (Kd.R_types HO154.out BK156.out (by decide)) (fun _ hk => hk.2) (.int .i64 t147)) (fun _ hk => hk.2) (.int .i64 t148)) (fun _ hk => hk.2) (.int .i64 t149)) (fun _ hk => hk.2) (.int .i64 t150)) (fun _ hk => hk.2) (.int .i64 t151)) (fun _ hk => hk.2) (.slice Ao9 t152.length co9)) (fun _ hk => trivial)⟩, ⟨by (with_reducible repeat (first | refine blk_drewN ?_ _ | refine blk_drew ?_ | refine blk_alloc ?_ _)); refine blk_far ?_ NB146_156.out _; (with_reducible repeat (first | refine blk_drewN ?_ _ | refine blk_drew ?_ | refine blk_alloc ?_ _)); refine blk_far ?_ NB146_156.out _; (with_reducible repeat (first | refine blk_drewN ?_ _ | refine blk_drew ?_ | refine blk_alloc ?_ _)); refine blk_far ?_ NB146_156.out _; (with_reducible repeat (first | refine blk_drewN ?_ _ | refine blk_drew ?_ | refine blk_alloc ?_ _)); refine blk_far ?_ NB146_156.out _; (with_reducible repeat (first | refine blk_drewN ?_ _ | refine blk_drew ?_ | refine blk_alloc ?_ _)); refine blk_far ?_ NB146_156.out _; (with_reducible repeat (first | refine blk_drewN ?_ _ | refine blk_drew ?_ | refine blk_alloc ?_ _)); refine blk_far ?_ NB146_156.out _; (with_reducible repeat (first | refine blk_drewN ?_ _ | refine blk_drew ?_ | refine blk_alloc ?_ _)); exact BK146.out⟩, ⟨by (with_reducible repeat (first | refine blk_drewN ?_ _ | refine blk_drew ?_ | refine blk_alloc ?_ _)); refine blk_put (cs := #[.int .i64 t147, .int .i64 t148, .int .i64 t149, .int .i64 t150, .int .i64 t151, .slice none 0 0]) ?_ 5 _ rfl; (with_reducible repeat (first | refine blk_drewN ?_ _ | refine blk_drew ?_ | refine blk_alloc ?_ _)); refine blk_put (cs := #[.int .i64 t147, .int .i64 t148, .int .i64 t149, .int .i64 t150, .int .i64 0, .slice none 0 0]) ?_ 4 _ rfl; (with_reducible repeat (first | refine blk_drewN ?_ _ | refine blk_drew ?_ | refine blk_alloc ?_ _)); refine blk_put (cs := #[.int .i64 t147, .int .i64 t148, .int .i64 t149, .int .i64 0, .int .i64 0, .slice none 0 0]) ?_ 3 _ rfl; (with_reducible repeat (first | refine blk_drewN ?_ _ | refine blk_drew ?_ | refine blk_alloc ?_ _)); refine blk_put (cs := #[.int .i64 t147, .int .i64 t148, .int .i64 0, .int .i64 0, .int .i64 0, .slice none 0 0]) ?_ 2 _ rfl; (with_reducible repeat (first | refine blk_drewN ?_ _ | refine blk_drew ?_ | refine blk_alloc ?_ _)); refine blk_put (cs := #[.int .i64 t147, .int .i64 0, .int .i64 0, .int .i64 0, .int .i64 0, .slice none 0 0]) ?_ 1 _ rfl; (with_reducible repeat (first | refine blk_drewN ?_ _ | refine blk_drew ?_ | refine blk_alloc ?_ _)); refine blk_put (cs := #[.int .i64 0, .int .i64 0, .int .i64 0, .int .i64 0, .int .i64 0, .slice none 0 0]) ?_ 0 _ rfl; (with_reducible repeat (first | refine blk_drewN ?_ _ | refine blk_drew ?_ | refine blk_alloc ?_ _)); exact BK156.out⟩, ⟨by repeat (first | (with_reducible first | exact HB.out | apply below_alloc | apply pw_below_drewN | apply below_drew1 | refine below_set ?_ GE146.out | refine below_set ?_ GE156.out) | exact HB.out)⟩⟩
  case round =>
    clear H'
    try clear c1
    try clear p2
    try clear c3
    try clear c7
    try clear hcz8_0
    try clear hcz8_1
    try clear hcz8_2
    try clear hcz8_3
    try clear hcz8_4
    try clear hcz8_5
    try clear hfz8_0
    try clear hfz8_1
    try clear hfz8_2
    try clear hfz8_3
    try clear hfz8_4
    try clear hfz8_5
    obtain ⟨x7_1, x17_1, x147000_1, x147001_1, x147002_1, x147003_1, x147004_1, x157000_1, x157001_1, x157002_1, x157003_1, x157004_1, x157005_1, u157005, rfl, rfl, HA, HK1, HO_157005, BK146, BK156, HB⟩ := hrel
    cases gk with
    | zero => exact absurd HA.out (by simp [lookoutlaw12_build.l0])
    | succ k1 =>
      have H := HA.out
      clear HA
      simp only [lookoutlaw12_build.l0] at H
      by_cases c10 : x17_1 < (l1.length : Int)
      · rw [if_pos c10] at H
        have c10b0 : decide (x17_1 < (l1.length : Int)) = true := decide_eq_true c10
        clear c10
        by_cases c11 : 0 ≤ x17_1
        · rw [if_pos c11] at H
          have c11b0 : decide (0 ≤ x17_1) = true := decide_eq_true c11
          clear c11
          by_cases c12 : x17_1 < (l1.length : Int)
          · rw [if_pos c12] at H
            have c12b0 : decide (x17_1 < (l1.length : Int)) = true := decide_eq_true c12
            clear c12
            by_cases c13 : x7_1 = 0
            · rw [if_pos c13] at H
              have c13b0 : (x7_1 == 0) = true := beq_iff_eq.mpr c13
              have c13b1 : (x7_1 != 0) = false := bne_eq_false_iff_eq.mpr c13
              clear c13
              replace H := Option.bind_eq_some_iff.mp H
              obtain ⟨⟨t158, t159, t160, t161, t162, t163, t166⟩, A140, H⟩ := H
              replace H : (lookoutlaw12_build.l0 k1 t166 l1 (l1.length : Int) (wrap64 (x17_1 + 1)) t158 t159 t160 t161 t162 t163) = some (r1, r2, r3, r4, r5, r6, r7) := H
              have A14 := Aside0.mk A140
              clear A140
              have H' := Aside0.mk H
              clear H
              have p157 : 0 ≤ (x17_1 : Int) := of_decide_eq_true (by first | (with_reducible assumption) | assumption)
              have q157 : x17_1 < (l1.length : Int) := of_decide_eq_true (by first | (with_reducible assumption) | assumption)
              obtain ⟨ad157, e157, hx157_0⟩ := Kd.at_int HR1.out x17_1 p157 q157
              cases e157
              replace hx157_0 := (HB.out.cell (World.block_lt_of_cell? w _ hx157_0)).trans hx157_0
              replace p157 := eq_true p157
              replace q157 := eq_true q157
              have hnb15 := NB156_146.out
              have hnc15 := NB146_156.out
              have hcz16_0 : wr.cell? ⟨gb156, 0, none⟩ = some (.int .i64 x157000_1) := (blk_cell BK156.out 0).trans rfl
              have hcz16_1 : wr.cell? ⟨gb156, 1, none⟩ = some (.int .i64 x157001_1) := (blk_cell BK156.out 1).trans rfl
              have hcz16_2 : wr.cell? ⟨gb156, 2, none⟩ = some (.int .i64 x157002_1) := (blk_cell BK156.out 2).trans rfl
              have hcz16_3 : wr.cell? ⟨gb156, 3, none⟩ = some (.int .i64 x157003_1) := (blk_cell BK156.out 3).trans rfl
              have hcz16_4 : wr.cell? ⟨gb156, 4, none⟩ = some (.int .i64 x157004_1) := (blk_cell BK156.out 4).trans rfl
              have hcz16_5 : wr.cell? ⟨gb156, 5, none⟩ = some (u157005) := (blk_cell BK156.out 5).trans rfl
              have hfz16_0 := blk_frozen BK156.out 0
              have hfz16_1 := blk_frozen BK156.out 1
              have hfz16_2 := blk_frozen BK156.out 2
              have hfz16_3 := blk_frozen BK156.out 3
              have hfz16_4 := blk_frozen BK156.out 4
              have hfz16_5 := blk_frozen BK156.out 5
              obtain ⟨Ao17, co17, eo17⟩ := Kd.R_slice HO_157005.out
              subst eo17
              go_wp2_with (first | ((with_reducible refine gate_callee (f := 23) rfl ?_); refine goesL_ (some 27) rfl rfl Try.func23 (by kernel_rfl) rfl #[.agg #[.int .i64 x157000_1, .int .i64 x157001_1, .int .i64 x157002_1, .int .i64 x157003_1, .int .i64 x157004_1, .slice Ao17 x157005_1.length co17], .int .i64 (rd l1 x17_1), .int .i64 1] rfl (by (try simp only [List.map_toArray, List.map_cons, List.map_nil]); first | done | rfl | (simp only [List.length_drop, List.length_take]; rfl)) ?_; (with_reducible refine (loghist_Add.calls k1 x157000_1 x157001_1 x157002_1 x157003_1 x157004_1 _ _ x157005_1 (rd l1 x17_1) 1 t158 t159 t160 t161 t162 t163 t166 _ ?side1 ?side2 A14.out).mono ?_); (case side1 => repeat (first | exact (Kd.R_reads' HO_157005.out).2.2 | (with_reducible refine Kd.C_alloc ?_ _) | (with_reducible refine Kd.C_drewN ?_ _) | (with_reducible refine Kd.C_drew ?_))); (case side2 => exact (Kd.R_reads' HO_157005.out).2.1); rintro e w18 ⟨v164, rfl, ho0, hb⟩; refine ⟨_, rfl, ?_⟩; have n0_ := Aside0.mk (Kd.R_elder' (by (with_reducible repeat (first | apply Kd.R_alloc | apply Kd.R_drewN | apply Kd.R_drew)); exact HO_157005.out) (Kd.R_base ho0) hb); have n1_ := Aside0.mk (Kd.R_lower (Kd.R_new' ho0 (Kd.R_lt (by (with_reducible repeat (first | apply Kd.R_alloc | apply Kd.R_drewN | apply Kd.R_drew)); exact HO_157005.out))) (below_size (by repeat (first | (with_reducible first | exact HB.out | apply below_alloc | apply pw_below_drewN | apply below_drew1 | refine below_set ?_ GE146.out | refine below_set ?_ GE156.out) | exact HB.out)))); have n2_ := Aside0.mk (blk_below (g := gb146) (o := .cells #[.int .i64 x147000_1, .int .i64 x147001_1, .int .i64 x147002_1, .int .i64 x147003_1, .int .i64 x147004_1, .slice none 0 0] 29 (0, 0)) (by (with_reducible repeat (first | refine blk_drewN ?_ _ | refine blk_drew ?_ | refine blk_alloc ?_ _)); exact BK146.out) hb); have n3_ := Aside0.mk (blk_below (g := gb156) (o := .cells #[.int .i64 x157000_1, .int .i64 x157001_1, .int .i64 x157002_1, .int .i64 x157003_1, .int .i64 x157004_1, .slice Ao17 x157005_1.length co17] 29 (0, 0)) (by (with_reducible repeat (first | refine blk_drewN ?_ _ | refine blk_drew ?_ | refine blk_alloc ?_ _)); exact BK156.out) hb); have n4_ := Aside0.mk (below_step (by repeat (first | (with_reducible first | exact HB.out | apply below_alloc | apply pw_below_drewN | apply below_drew1 | refine below_set ?_ GE146.out | refine below_set ?_ GE156.out) | exact HB.out)) hb); clear HO_157005; clear BK146; clear BK156; clear HB; have HO_157005 := n0_; have HO165 := n1_; have BK146 := n2_; have BK156 := n3_; have HB := n4_; clear n0_ n1_ n2_ n3_ n4_; (try clear hb); (try clear hb2); (try clear hk); (try clear hi); (try clear ho0); have hcz19_0 : w18.cell? ⟨gb156, 0, none⟩ = some (.int .i64 x157000_1) := (blk_cell BK156.out 0).trans rfl; have hcz19_1 : w18.cell? ⟨gb156, 1, none⟩ = some (.int .i64 x157001_1) := (blk_cell BK156.out 1).trans rfl; have hcz19_2 : w18.cell? ⟨gb156, 2, none⟩ = some (.int .i64 x157002_1) := (blk_cell BK156.out 2).trans rfl; have hcz19_3 : w18.cell? ⟨gb156, 3, none⟩ = some (.int .i64 x157003_1) := (blk_cell BK156.out 3).trans rfl; have hcz19_4 : w18.cell? ⟨gb156, 4, none⟩ = some (.int .i64 x157004_1) := (blk_cell BK156.out 4).trans rfl; have hcz19_5 : w18.cell? ⟨gb156, 5, none⟩ = some (.slice Ao17 x157005_1.length co17) := (blk_cell BK156.out 5).trans rfl; have hfz19_0 := blk_frozen BK156.out 0; have hfz19_1 := blk_frozen BK156.out 1; have hfz19_2 := blk_frozen BK156.out 2; have hfz19_3 := blk_frozen BK156.out 3; have hfz19_4 := blk_frozen BK156.out 4; have hfz19_5 := blk_frozen BK156.out 5; obtain ⟨Ao20, co20, eo20⟩ := Kd.R_slice HO165.out; subst eo20))
              go_roundg k1
              case measure => have := HK1.out; omega
              case rel => exact ⟨(t166), (wrap64 (x17_1 + 1)), (x147000_1), (x147001_1), (x147002_1), (x147003_1), (x147004_1), (t158), (t159), (t160), (t161), (t162), (t163), (.slice Ao20 t163.length co20), (by first | rfl | (simp; done) | (simp [*]; done)), (by first | rfl | (simp; done) | (simp [*]; done)), H', ⟨by have := HK1.out; omega⟩, ⟨by (with_reducible repeat (first | apply Kd.R_alloc | apply Kd.R_drewN | apply Kd.R_drew)); exact Kd.R_mono (Kd.R_far (p := ⟨gb156, 5, none⟩) (Kd.R_far (p := ⟨gb156, 4, none⟩) (Kd.R_far (p := ⟨gb156, 3, none⟩) (Kd.R_far (p := ⟨gb156, 2, none⟩) (Kd.R_far (p := ⟨gb156, 1, none⟩) (Kd.R_far (p := ⟨gb156, 0, none⟩) (Kd.R_types HO165.out BK156.out (by decide)) (fun _ hk => hk.2) (.int .i64 t158)) (fun _ hk => hk.2) (.int .i64 t159)) (fun _ hk => hk.2) (.int .i64 t160)) (fun _ hk => hk.2) (.int .i64 t161)) (fun _ hk => hk.2) (.int .i64 t162)) (fun _ hk => hk.2) (.slice Ao20 t163.length co20)) (fun _ hk => trivial)⟩, ⟨by (with_reducible repeat (first | refine blk_drewN ?_ _ | refine blk_drew ?_ | refine blk_alloc ?_ _)); refine blk_far ?_ NB146_156.out _; (with_reducible repeat (first | refine blk_drewN ?_ _ | refine blk_drew ?_ | refine blk_alloc ?_ _)); refine blk_far ?_ NB146_156.out _; (with_reducible repeat (first | refine blk_drewN ?_ _ | refine blk_drew ?_ | refine blk_alloc ?_ _)); refine blk_far ?_ NB146_156.out _; (with_reducible repeat (first | refine blk_drewN ?_ _ | refine blk_drew ?_ | refine blk_alloc ?_ _)); refine blk_far ?_ NB146_156.out _; (with_reducible repeat (first | refine blk_drewN ?_ _ | refine blk_drew ?_ | refine blk_alloc ?_ _)); refine blk_far ?_ NB146_156.out _; (with_reducible repeat (first | refine blk_drewN ?_ _ | refine blk_drew ?_ | refine blk_alloc ?_ _)); refine blk_far ?_ NB146_156.out _; (with_reducible repeat (first | refine blk_drewN ?_ _ | refine blk_drew ?_ | refine blk_alloc ?_ _)); exact BK146.out⟩, ⟨by (with_reducible repeat (first | refine blk_drewN ?_ _ | refine blk_drew ?_ | refine blk_alloc ?_ _)); refine blk_put (cs := #[.int .i64 t158, .int .i64 t159, .int .i64 t160, .int .i64 t161, .int .i64 t162, .slice Ao17 x157005_1.length co17]) ?_ 5 _ rfl; (with_reducible repeat (first | refine blk_drewN ?_ _ | refine blk_drew ?_ | refine blk_alloc ?_ _)); refine blk_put (cs := #[.int .i64 t158, .int .i64 t159, .int .i64 t160, .int .i64 t161, .int .i64 x157004_1, .slice Ao17 x157005_1.length co17]) ?_ 4 _ rfl; (with_reducible repeat (first | refine blk_drewN ?_ _ | refine blk_drew ?_ | refine blk_alloc ?_ _)); refine blk_put (cs := #[.int .i64 t158, .int .i64 t159, .int .i64 t160, .int .i64 x157003_1, .int .i64 x157004_1, .slice Ao17 x157005_1.length co17]) ?_ 3 _ rfl; (with_reducible repeat (first | refine blk_drewN ?_ _ | refine blk_drew ?_ | refine blk_alloc ?_ _)); refine blk_put (cs := #[.int .i64 t158, .int .i64 t159, .int .i64 x157002_1, .int .i64 x157003_1, .int .i64 x157004_1, .slice Ao17 x157005_1.length co17]) ?_ 2 _ rfl; (with_reducible repeat (first | refine blk_drewN ?_ _ | refine blk_drew ?_ | refine blk_alloc ?_ _)); refine blk_put (cs := #[.int .i64 t158, .int .i64 x157001_1, .int .i64 x157002_1, .int .i64 x157003_1, .int .i64 x157004_1, .slice Ao17 x157005_1.length co17]) ?_ 1 _ rfl; (with_reducible repeat (first | refine blk_drewN ?_ _ | refine blk_drew ?_ | refine blk_alloc ?_ _)); refine blk_put (cs := #[.int .i64 x157000_1, .int .i64 x157001_1, .int .i64 x157002_1, .int .i64 x157003_1, .int .i64 x157004_1, .slice Ao17 x157005_1.length co17]) ?_ 0 _ rfl; (with_reducible repeat (first | refine blk_drewN ?_ _ | refine blk_drew ?_ | refine blk_alloc ?_ _)); exact BK156.out⟩, ⟨by repeat (first | (with_reducible first | exact HB.out | apply below_alloc | apply pw_below_drewN | apply below_drew1 | refine below_set ?_ GE146.out | refine below_set ?_ GE156.out) | exact HB.out)⟩⟩
            · rw [if_neg c13] at H
              have c13b0 : (x7_1 == 0) = false := beq_eq_false_iff_ne.mpr c13
              have c13b1 : (x7_1 != 0) = true := bne_iff_ne.mpr c13
              simp only [Option.some.injEq, Prod.mk.injEq] at H
              obtain ⟨rfl, rfl, rfl, rfl, rfl, rfl, rfl⟩ := H
              have p157 : 0 ≤ (x17_1 : Int) := of_decide_eq_true (by first | (with_reducible assumption) | assumption)
              have q157 : x17_1 < (l1.length : Int) := of_decide_eq_true (by first | (with_reducible assumption) | assumption)
              obtain ⟨ad157, e157, hx157_0⟩ := Kd.at_int HR1.out x17_1 p157 q157
              cases e157
              replace hx157_0 := (HB.out.cell (World.block_lt_of_cell? w _ hx157_0)).trans hx157_0
              replace p157 := eq_true p157
              replace q157 := eq_true q157
              have hnb21 := NB146_156.out
              have hnc21 := NB156_146.out
              have hcz22_0 : wr.cell? ⟨gb146, 0, none⟩ = some (.int .i64 x147000_1) := (blk_cell BK146.out 0).trans rfl
              have hcz22_1 : wr.cell? ⟨gb146, 1, none⟩ = some (.int .i64 x147001_1) := (blk_cell BK146.out 1).trans rfl
              have hcz22_2 : wr.cell? ⟨gb146, 2, none⟩ = some (.int .i64 x147002_1) := (blk_cell BK146.out 2).trans rfl
              have hcz22_3 : wr.cell? ⟨gb146, 3, none⟩ = some (.int .i64 x147003_1) := (blk_cell BK146.out 3).trans rfl
              have hcz22_4 : wr.cell? ⟨gb146, 4, none⟩ = some (.int .i64 x147004_1) := (blk_cell BK146.out 4).trans rfl
              have hcz22_5 : wr.cell? ⟨gb146, 5, none⟩ = some (.slice none 0 0) := (blk_cell BK146.out 5).trans rfl
              have hfz22_0 := blk_frozen BK146.out 0
              have hfz22_1 := blk_frozen BK146.out 1
              have hfz22_2 := blk_frozen BK146.out 2
              have hfz22_3 := blk_frozen BK146.out 3
              have hfz22_4 := blk_frozen BK146.out 4
              have hfz22_5 := blk_frozen BK146.out 5
              go_wp2
              refine bodyPost_ret (results_ct rfl _ _ gb146 29 #[.int .i64 0, .int .i64 0, .int .i64 0, .int .i64 0, .int .i64 0, .slice none 0 0] (0, 0) _ rfl (by (with_reducible repeat (first | refine blk_drewN ?_ _ | refine blk_drew ?_ | refine blk_alloc ?_ _)); refine blk_put (cs := #[.int .i64 0, .int .i64 0, .int .i64 0, .int .i64 0, .int .i64 0, .slice none 0 0]) ?_ 5 _ rfl; (with_reducible repeat (first | refine blk_drewN ?_ _ | refine blk_drew ?_ | refine blk_alloc ?_ _)); refine blk_put (cs := #[.int .i64 0, .int .i64 0, .int .i64 0, .int .i64 0, .int .i64 x147004_1, .slice none 0 0]) ?_ 4 _ rfl; (with_reducible repeat (first | refine blk_drewN ?_ _ | refine blk_drew ?_ | refine blk_alloc ?_ _)); refine blk_put (cs := #[.int .i64 0, .int .i64 0, .int .i64 0, .int .i64 x147003_1, .int .i64 x147004_1, .slice none 0 0]) ?_ 3 _ rfl; (with_reducible repeat (first | refine blk_drewN ?_ _ | refine blk_drew ?_ | refine blk_alloc ?_ _)); refine blk_put (cs := #[.int .i64 0, .int .i64 0, .int .i64 x147002_1, .int .i64 x147003_1, .int .i64 x147004_1, .slice none 0 0]) ?_ 2 _ rfl; (with_reducible repeat (first | refine blk_drewN ?_ _ | refine blk_drew ?_ | refine blk_alloc ?_ _)); refine blk_put (cs := #[.int .i64 0, .int .i64 x147001_1, .int .i64 x147002_1, .int .i64 x147003_1, .int .i64 x147004_1, .slice none 0 0]) ?_ 1 _ rfl; (with_reducible repeat (first | refine blk_drewN ?_ _ | refine blk_drew ?_ | refine blk_alloc ?_ _)); refine blk_put (cs := #[.int .i64 x147000_1, .int .i64 x147001_1, .int .i64 x147002_1, .int .i64 x147003_1, .int .i64 x147004_1, .slice none 0 0]) ?_ 0 _ rfl; (with_reducible repeat (first | refine blk_drewN ?_ _ | refine blk_drew ?_ | refine blk_alloc ?_ _)); exact BK146.out) Try.underlying29 rfl (by kernel_rfl)) rfl ?_
              exact ⟨_, by first | rfl | (simp [errW_none, errW_some] <;> rfl) | (simp [*, errW_none, errW_some] <;> rfl), by first | exact Kd.R_nil _ _ _ _ _ | exact Kd.N_nil _ _ _ _ _ | exact Kd.V_nil _ _ _ _ _ | exact Kd.Q_nil _ _ _ _ _ | exact Kd.S_nil _ _ _ _ _, by repeat (first | (with_reducible first | exact HB.out | apply below_alloc | apply pw_below_drewN | apply below_drew1 | refine below_set ?_ GE146.out | refine below_set ?_ GE156.out) | exact HB.out)⟩
          · rw [if_neg c12] at H
            exact absurd H (by simp)
        · rw [if_neg c11] at H
          exact absurd H (by simp)
      · rw [if_neg c10] at H
        have c10b0 : decide (x17_1 < (l1.length : Int)) = false := decide_eq_false c10
        clear c10
        simp only [Option.some.injEq, Prod.mk.injEq] at H
        obtain ⟨rfl, rfl, rfl, rfl, rfl, rfl, rfl⟩ := H
        have hnb23 := NB156_146.out
        have hnc23 := NB146_156.out
        have hcz24_0 : wr.cell? ⟨gb156, 0, none⟩ = some (.int .i64 x157000_1) := (blk_cell BK156.out 0).trans rfl
        have hcz24_1 : wr.cell? ⟨gb156, 1, none⟩ = some (.int .i64 x157001_1) := (blk_cell BK156.out 1).trans rfl
        have hcz24_2 : wr.cell? ⟨gb156, 2, none⟩ = some (.int .i64 x157002_1) := (blk_cell BK156.out 2).trans rfl
        have hcz24_3 : wr.cell? ⟨gb156, 3, none⟩ = some (.int .i64 x157003_1) := (blk_cell BK156.out 3).trans rfl
        have hcz24_4 : wr.cell? ⟨gb156, 4, none⟩ = some (.int .i64 x157004_1) := (blk_cell BK156.out 4).trans rfl
        have hcz24_5 : wr.cell? ⟨gb156, 5, none⟩ = some (u157005) := (blk_cell BK156.out 5).trans rfl
        have hfz24_0 := blk_frozen BK156.out 0
        have hfz24_1 := blk_frozen BK156.out 1
        have hfz24_2 := blk_frozen BK156.out 2
        have hfz24_3 := blk_frozen BK156.out 3
        have hfz24_4 := blk_frozen BK156.out 4
        have hfz24_5 := blk_frozen BK156.out 5
        have hcz25_0 : wr.cell? ⟨gb146, 0, none⟩ = some (.int .i64 x147000_1) := (blk_cell BK146.out 0).trans rfl
        have hcz25_1 : wr.cell? ⟨gb146, 1, none⟩ = some (.int .i64 x147001_1) := (blk_cell BK146.out 1).trans rfl
        have hcz25_2 : wr.cell? ⟨gb146, 2, none⟩ = some (.int .i64 x147002_1) := (blk_cell BK146.out 2).trans rfl
        have hcz25_3 : wr.cell? ⟨gb146, 3, none⟩ = some (.int .i64 x147003_1) := (blk_cell BK146.out 3).trans rfl
        have hcz25_4 : wr.cell? ⟨gb146, 4, none⟩ = some (.int .i64 x147004_1) := (blk_cell BK146.out 4).trans rfl
        have hcz25_5 : wr.cell? ⟨gb146, 5, none⟩ = some (.slice none 0 0) := (blk_cell BK146.out 5).trans rfl
        have hfz25_0 := blk_frozen BK146.out 0
        have hfz25_1 := blk_frozen BK146.out 1
        have hfz25_2 := blk_frozen BK146.out 2
        have hfz25_3 := blk_frozen BK146.out 3
        have hfz25_4 := blk_frozen BK146.out 4
        have hfz25_5 := blk_frozen BK146.out 5
        obtain ⟨Ao26, co26, eo26⟩ := Kd.R_slice HO_157005.out
        subst eo26
        go_wp2
        refine bodyPost_ret (results_ct rfl _ _ gb146 29 #[.int .i64 x157000_1, .int .i64 x157001_1, .int .i64 x157002_1, .int .i64 x157003_1, .int .i64 x157004_1, .slice Ao26 x157005_1.length co26] (0, 0) _ rfl (by (with_reducible repeat (first | refine blk_drewN ?_ _ | refine blk_drew ?_ | refine blk_alloc ?_ _)); refine blk_put (cs := #[.int .i64 x157000_1, .int .i64 x157001_1, .int .i64 x157002_1, .int .i64 x157003_1, .int .i64 x157004_1, .slice none 0 0]) ?_ 5 _ rfl; (with_reducible repeat (first | refine blk_drewN ?_ _ | refine blk_drew ?_ | refine blk_alloc ?_ _)); refine blk_put (cs := #[.int .i64 x157000_1, .int .i64 x157001_1, .int .i64 x157002_1, .int .i64 x157003_1, .int .i64 x147004_1, .slice none 0 0]) ?_ 4 _ rfl; (with_reducible repeat (first | refine blk_drewN ?_ _ | refine blk_drew ?_ | refine blk_alloc ?_ _)); refine blk_put (cs := #[.int .i64 x157000_1, .int .i64 x157001_1, .int .i64 x157002_1, .int .i64 x147003_1, .int .i64 x147004_1, .slice none 0 0]) ?_ 3 _ rfl; (with_reducible repeat (first | refine blk_drewN ?_ _ | refine blk_drew ?_ | refine blk_alloc ?_ _)); refine blk_put (cs := #[.int .i64 x157000_1, .int .i64 x157001_1, .int .i64 x147002_1, .int .i64 x147003_1, .int .i64 x147004_1, .slice none 0 0]) ?_ 2 _ rfl; (with_reducible repeat (first | refine blk_drewN ?_ _ | refine blk_drew ?_ | refine blk_alloc ?_ _)); refine blk_put (cs := #[.int .i64 x157000_1, .int .i64 x147001_1, .int .i64 x147002_1, .int .i64 x147003_1, .int .i64 x147004_1, .slice none 0 0]) ?_ 1 _ rfl; (with_reducible repeat (first | refine blk_drewN ?_ _ | refine blk_drew ?_ | refine blk_alloc ?_ _)); refine blk_put (cs := #[.int .i64 x147000_1, .int .i64 x147001_1, .int .i64 x147002_1, .int .i64 x147003_1, .int .i64 x147004_1, .slice none 0 0]) ?_ 0 _ rfl; (with_reducible repeat (first | refine blk_drewN ?_ _ | refine blk_drew ?_ | refine blk_alloc ?_ _)); exact BK146.out) Try.underlying29 rfl (by kernel_rfl)) rfl ?_
        exact ⟨_, by first | rfl | (simp [errW_none, errW_some] <;> rfl) | (simp [*, errW_none, errW_some] <;> rfl), by (with_reducible repeat (first | apply Kd.R_alloc | apply Kd.R_drewN | apply Kd.R_drew)); exact Kd.R_mono (Kd.R_far (p := ⟨gb146, 5, none⟩) (Kd.R_far (p := ⟨gb146, 4, none⟩) (Kd.R_far (p := ⟨gb146, 3, none⟩) (Kd.R_far (p := ⟨gb146, 2, none⟩) (Kd.R_far (p := ⟨gb146, 1, none⟩) (Kd.R_far (p := ⟨gb146, 0, none⟩) (Kd.R_types HO_157005.out BK146.out (by decide)) (fun _ hk => hk.2) (.int .i64 x157000_1)) (fun _ hk => hk.2) (.int .i64 x157001_1)) (fun _ hk => hk.2) (.int .i64 x157002_1)) (fun _ hk => hk.2) (.int .i64 x157003_1)) (fun _ hk => hk.2) (.int .i64 x157004_1)) (fun _ hk => hk.2) (.slice Ao26 x157005_1.length co26)) (fun _ hk => trivial), by repeat (first | (with_reducible first | exact HB.out | apply below_alloc | apply pw_below_drewN | apply below_drew1 | refine below_set ?_ GE146.out | refine below_set ?_ GE156.out) | exact HB.out)⟩

end Go.Proofs.Ytclgfbhkmhhenaa.P
