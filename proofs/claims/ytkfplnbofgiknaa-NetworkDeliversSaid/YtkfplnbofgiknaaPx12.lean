/- Printed by a program of this session: functions of the law's Go code as Lean functions, and that the Go code computes them. No condition beyond those in the statements. -/
import Derived.Test.YtkfplnbofgiknaaPx0
import Derived.Test.YtkfplnbofgiknaaPx6
import Derived.Test.YtkfplnbofgiknaaPx8
import Derived.Test.YtkfplnbofgiknaaPx9
namespace Go.Proofs.Ytkfplnbofgiknaa.P
open Go.RowKit Go.Proofs.YtkfplnbofgiknaaW.PrintWords Go.Proofs.YtkfplnbofgiknaaW.PrintLast Go.Proofs.YtkfplnbofgiknaaW.PrintMore Go.Proofs.Ytkfplnbofgiknaa.Hand Go.Proofs.Ytkfplnbofgiknaa.A
attribute [local go_sem] max2_int min2_int max_two min_two max_three min_three max_four min_four   -- for this text's walks alone
set_option linter.unusedVariables false
set_option linter.unusedSimpArgs false

/-! ### lookoutlaw50_NetworkDelivers: function 8 -/
mutual
def lookoutlaw50_NetworkDelivers.j0 : Nat → Int → Int → Bool → Int → Int → ByteArray → Option (Bool)
  | 0, _, _, _, _, _, _ => none
  | k + 1, x0, x1, x33, x156000, x156001, x156002 => if x33 = true then ((lookoutlaw50_awake.f k).bind fun t156 => (some t156)) else ((network_Send.f k x0 (([x1] : List Int)) ([] : List (S44)) x156000 x156001 x156002).bind fun bt160 => (if bt160.2.2.2 = 0 then ((lookoutlaw50_steps.f k bt160.1 bt160.2.1 bt160.2.2.1 8).bind fun bt173 => ((network_Delays.f x1).bind fun t185 => (if bt173.2.2.2.2 = true then ((network_Idle.f bt173.2.1 bt173.2.2.1 bt173.2.2.2.1).bind fun t188 => (if t188 = true then (if bt173.2.1 = (wrap64 (x0 + 8)) then (if (bt160.2.1.length : Int) = 0 then (lookoutlaw50_NetworkDelivers.j1 k bt173.1 t185 (decide ((t185.length : Int) > 2)) x156000 x156001 x156002) else (lookoutlaw50_NetworkDelivers.j1 k bt173.1 t185 true x156000 x156001 x156002)) else (lookoutlaw50_NetworkDelivers.j1 k bt173.1 t185 true x156000 x156001 x156002)) else (lookoutlaw50_NetworkDelivers.j1 k bt173.1 t185 true x156000 x156001 x156002))) else (lookoutlaw50_NetworkDelivers.j1 k bt173.1 t185 true x156000 x156001 x156002)))) else (if bt160.2.2.2 = 2 then (if x156000 < (-1) then ((lookoutlaw50_awake.f k).bind fun t169 => (some t169)) else (if x156000 > 15 then ((lookoutlaw50_awake.f k).bind fun t170 => (some t170)) else (if x156001 < (-1) then ((lookoutlaw50_awake.f k).bind fun t171 => (some t171)) else (if x156001 > 15 then ((lookoutlaw50_awake.f k).bind fun t172 => (some t172)) else (none))))) else (none))))
def lookoutlaw50_NetworkDelivers.j1 : Nat → List (List (S27)) → List Int → Bool → Int → Int → ByteArray → Option (Bool)
  | 0, _, _, _, _, _, _ => none
  | k + 1, x9, x12, x103, x156000, x156001, x156002 => if x103 = true then (none) else (lookoutlaw50_NetworkDelivers.l0 k x12 x9 (x9.length : Int) 0 x156000 x156001 x156002)
def lookoutlaw50_NetworkDelivers.l0 : Nat → List Int → List (List (S27)) → Int → Int → Int → Int → ByteArray → Option (Bool)
  | 0, _, _, _, _, _, _, _ => none
  | k + 1, x12, x104, x105, x106, x156000, x156001, x156002 => if x106 < x105 then (if 0 ≤ x106 then (if x106 < (x104.length : Int) then (lookoutlaw50_NetworkDelivers.l1 k x12 x106 (rd_L7 x104 x106) 0 x104 x105 x106 x12 (x12.length : Int) 0 x156000 x156001 x156002) else (none)) else (none)) else ((lookoutlaw50_awake.f k).bind fun t189 => (some t189))
def lookoutlaw50_NetworkDelivers.l1 : Nat → List Int → Int → List (S27) → Int → List (List (S27)) → Int → Int → List Int → Int → Int → Int → Int → ByteArray → Option (Bool)
  | 0, _, _, _, _, _, _, _, _, _, _, _, _, _ => none
  | k + 1, x12, x13, x14, x15, x104, x105, x106, x111, x112, x113, x156000, x156001, x156002 => if x113 < x112 then (if 0 ≤ x113 then (if x113 < (x111.length : Int) then (if (rd x111 x113) = (wrap64 (x13 + 1)) then (lookoutlaw50_NetworkDelivers.l1 k x12 x13 x14 (wrap64 (x15 + 1)) x104 x105 x106 x111 x112 (wrap64 (x113 + 1)) x156000 x156001 x156002) else (lookoutlaw50_NetworkDelivers.l1 k x12 x13 x14 x15 x104 x105 x106 x111 x112 (wrap64 (x113 + 1)) x156000 x156001 x156002)) else (none)) else (none)) else (if (x14.length : Int) = x15 then ((contains_other.f x14 x156000 x156001 x156002).bind fun t192 => (if t192 = true then (none) else (lookoutlaw50_NetworkDelivers.l0 k x12 x104 x105 (wrap64 (x106 + 1)) x156000 x156001 x156002))) else (none))
end
def lookoutlaw50_NetworkDelivers.f (k : Nat) (a0 : Int) (a1 : Int) (a2_0 : Int) (a2_1 : Int) (a2_2 : ByteArray) : Option (Bool) := if a0 < 0 then (lookoutlaw50_NetworkDelivers.j0 k a0 a1 true a2_0 a2_1 a2_2) else (if a0 > 576460752303423488 then (lookoutlaw50_NetworkDelivers.j0 k a0 a1 true a2_0 a2_1 a2_2) else (if a1 < 0 then (lookoutlaw50_NetworkDelivers.j0 k a0 a1 true a2_0 a2_1 a2_2) else (lookoutlaw50_NetworkDelivers.j0 k a0 a1 (decide ((a2_2.size : Int) > 2000)) a2_0 a2_1 a2_2)))
theorem lookoutlaw50_NetworkDelivers.mono_l : ∀ k, (∀ y0 y1 y2 y3 y4 y5, LeO (lookoutlaw50_NetworkDelivers.j0 k y0 y1 y2 y3 y4 y5) (lookoutlaw50_NetworkDelivers.j0 (k + 1) y0 y1 y2 y3 y4 y5)) ∧ (∀ y0 y1 y2 y3 y4 y5, LeO (lookoutlaw50_NetworkDelivers.j1 k y0 y1 y2 y3 y4 y5) (lookoutlaw50_NetworkDelivers.j1 (k + 1) y0 y1 y2 y3 y4 y5)) ∧ (∀ y0 y1 y2 y3 y4 y5 y6, LeO (lookoutlaw50_NetworkDelivers.l0 k y0 y1 y2 y3 y4 y5 y6) (lookoutlaw50_NetworkDelivers.l0 (k + 1) y0 y1 y2 y3 y4 y5 y6)) ∧ (∀ y0 y1 y2 y3 y4 y5 y6 y7 y8 y9 y10 y11 y12, LeO (lookoutlaw50_NetworkDelivers.l1 k y0 y1 y2 y3 y4 y5 y6 y7 y8 y9 y10 y11 y12) (lookoutlaw50_NetworkDelivers.l1 (k + 1) y0 y1 y2 y3 y4 y5 y6 y7 y8 y9 y10 y11 y12))
  | 0 => ⟨fun _ _ _ _ _ _ r h => by simp [lookoutlaw50_NetworkDelivers.j0] at h, fun _ _ _ _ _ _ r h => by simp [lookoutlaw50_NetworkDelivers.j1] at h, fun _ _ _ _ _ _ _ r h => by simp [lookoutlaw50_NetworkDelivers.l0] at h, fun _ _ _ _ _ _ _ _ _ _ _ _ _ r h => by simp [lookoutlaw50_NetworkDelivers.l1] at h⟩
  | k + 1 => by
    obtain ⟨ih0, ih1, ih2, ih3⟩ := lookoutlaw50_NetworkDelivers.mono_l k
    refine ⟨?_, ?_, ?_, ?_⟩
    · intro y0 y1 y2 y3 y4 y5
      unfold lookoutlaw50_NetworkDelivers.j0
      repeat' first
      | (with_reducible exact ih0 _ _ _ _ _ _)
      | (with_reducible exact ih1 _ _ _ _ _ _)
      | (with_reducible exact ih2 _ _ _ _ _ _ _)
      | (with_reducible exact ih3 _ _ _ _ _ _ _ _ _ _ _ _ _)
      | (with_reducible exact lookoutlaw50_awake.mono _)
      | (with_reducible exact lookoutlaw50_steps.mono _ _ _ _ _)
      | (with_reducible exact network_Send.mono _ _ _ _ _ _ _)
      | (with_reducible exact LeO.refl _)
      | (with_reducible exact LeO.none _)
      | (with_reducible refine LeO.ite ?_ ?_)
      | (with_reducible refine LeO.bind ?_ (fun _ => ?_))
      | exact ih0 _ _ _ _ _ _
      | exact ih1 _ _ _ _ _ _
      | exact ih2 _ _ _ _ _ _ _
      | exact ih3 _ _ _ _ _ _ _ _ _ _ _ _ _
      | exact lookoutlaw50_awake.mono _
      | exact lookoutlaw50_steps.mono _ _ _ _ _
      | exact network_Send.mono _ _ _ _ _ _ _
      | exact LeO.none _
      | refine LeO.ite ?_ ?_
      | refine LeO.bind ?_ (fun _ => ?_)
    · intro y0 y1 y2 y3 y4 y5
      unfold lookoutlaw50_NetworkDelivers.j1
      repeat' first
      | (with_reducible exact ih0 _ _ _ _ _ _)
      | (with_reducible exact ih1 _ _ _ _ _ _)
      | (with_reducible exact ih2 _ _ _ _ _ _ _)
      | (with_reducible exact ih3 _ _ _ _ _ _ _ _ _ _ _ _ _)
      | (with_reducible exact lookoutlaw50_awake.mono _)
      | (with_reducible exact lookoutlaw50_steps.mono _ _ _ _ _)
      | (with_reducible exact network_Send.mono _ _ _ _ _ _ _)
      | (with_reducible exact LeO.refl _)
      | (with_reducible exact LeO.none _)
      | (with_reducible refine LeO.ite ?_ ?_)
      | (with_reducible refine LeO.bind ?_ (fun _ => ?_))
      | exact ih0 _ _ _ _ _ _
      | exact ih1 _ _ _ _ _ _
      | exact ih2 _ _ _ _ _ _ _
      | exact ih3 _ _ _ _ _ _ _ _ _ _ _ _ _
      | exact lookoutlaw50_awake.mono _
      | exact lookoutlaw50_steps.mono _ _ _ _ _
      | exact network_Send.mono _ _ _ _ _ _ _
      | exact LeO.none _
      | refine LeO.ite ?_ ?_
      | refine LeO.bind ?_ (fun _ => ?_)
    · intro y0 y1 y2 y3 y4 y5 y6
      unfold lookoutlaw50_NetworkDelivers.l0
      repeat' first
      | (with_reducible exact ih0 _ _ _ _ _ _)
      | (with_reducible exact ih1 _ _ _ _ _ _)
      | (with_reducible exact ih2 _ _ _ _ _ _ _)
      | (with_reducible exact ih3 _ _ _ _ _ _ _ _ _ _ _ _ _)
      | (with_reducible exact lookoutlaw50_awake.mono _)
      | (with_reducible exact lookoutlaw50_steps.mono _ _ _ _ _)
      | (with_reducible exact network_Send.mono _ _ _ _ _ _ _)
      | (with_reducible exact LeO.refl _)
      | (with_reducible exact LeO.none _)
      | (with_reducible refine LeO.ite ?_ ?_)
      | (with_reducible refine LeO.bind ?_ (fun _ => ?_))
      | exact ih0 _ _ _ _ _ _
      | exact ih1 _ _ _ _ _ _
      | exact ih2 _ _ _ _ _ _ _
      | exact ih3 _ _ _ _ _ _ _ _ _ _ _ _ _
      | exact lookoutlaw50_awake.mono _
      | exact lookoutlaw50_steps.mono _ _ _ _ _
      | exact network_Send.mono _ _ _ _ _ _ _
      | exact LeO.none _
      | refine LeO.ite ?_ ?_
      | refine LeO.bind ?_ (fun _ => ?_)
    · intro y0 y1 y2 y3 y4 y5 y6 y7 y8 y9 y10 y11 y12
      unfold lookoutlaw50_NetworkDelivers.l1
      repeat' first
      | (with_reducible exact ih0 _ _ _ _ _ _)
      | (with_reducible exact ih1 _ _ _ _ _ _)
      | (with_reducible exact ih2 _ _ _ _ _ _ _)
      | (with_reducible exact ih3 _ _ _ _ _ _ _ _ _ _ _ _ _)
      | (with_reducible exact lookoutlaw50_awake.mono _)
      | (with_reducible exact lookoutlaw50_steps.mono _ _ _ _ _)
      | (with_reducible exact network_Send.mono _ _ _ _ _ _ _)
      | (with_reducible exact LeO.refl _)
      | (with_reducible exact LeO.none _)
      | (with_reducible refine LeO.ite ?_ ?_)
      | (with_reducible refine LeO.bind ?_ (fun _ => ?_))
      | exact ih0 _ _ _ _ _ _
      | exact ih1 _ _ _ _ _ _
      | exact ih2 _ _ _ _ _ _ _
      | exact ih3 _ _ _ _ _ _ _ _ _ _ _ _ _
      | exact lookoutlaw50_awake.mono _
      | exact lookoutlaw50_steps.mono _ _ _ _ _
      | exact network_Send.mono _ _ _ _ _ _ _
      | exact LeO.none _
      | refine LeO.ite ?_ ?_
      | refine LeO.bind ?_ (fun _ => ?_)
theorem lookoutlaw50_NetworkDelivers.mono : ∀ a0 a1 a2 a3 a4 k, LeO (lookoutlaw50_NetworkDelivers.f k a0 a1 a2 a3 a4) (lookoutlaw50_NetworkDelivers.f (k + 1) a0 a1 a2 a3 a4) := by
  intro a0 a1 a2 a3 a4 k
  obtain ⟨ih0, ih1, ih2, ih3⟩ := lookoutlaw50_NetworkDelivers.mono_l k
  unfold lookoutlaw50_NetworkDelivers.f
  repeat' first
      | (with_reducible exact ih0 _ _ _ _ _ _)
      | (with_reducible exact ih1 _ _ _ _ _ _)
      | (with_reducible exact ih2 _ _ _ _ _ _ _)
      | (with_reducible exact ih3 _ _ _ _ _ _ _ _ _ _ _ _ _)
      | (with_reducible exact lookoutlaw50_awake.mono _)
      | (with_reducible exact lookoutlaw50_steps.mono _ _ _ _ _)
      | (with_reducible exact network_Send.mono _ _ _ _ _ _ _)
      | (with_reducible exact LeO.refl _)
      | (with_reducible exact LeO.none _)
      | (with_reducible refine LeO.ite ?_ ?_)
      | (with_reducible refine LeO.bind ?_ (fun _ => ?_))
      | exact ih0 _ _ _ _ _ _
      | exact ih1 _ _ _ _ _ _
      | exact ih2 _ _ _ _ _ _ _
      | exact ih3 _ _ _ _ _ _ _ _ _ _ _ _ _
      | exact lookoutlaw50_awake.mono _
      | exact lookoutlaw50_steps.mono _ _ _ _ _
      | exact network_Send.mono _ _ _ _ _ _ _
      | exact LeO.none _
      | refine LeO.ite ?_ ?_
      | refine LeO.bind ?_ (fun _ => ?_)
set_option maxHeartbeats 8000000 in
set_option maxRecDepth 100000 in
theorem lookoutlaw50_NetworkDelivers.calls (k : Nat) (a0 : Int) (a1 : Int) (a2_0 : Int) (a2_1 : Int) (a2_2 : ByteArray) (r : Bool) (w : World) (h : lookoutlaw50_NetworkDelivers.f k a0 a1 a2_0 a2_1 a2_2 = some r) :
    Calls Try.prog 8 #[.int .i64 a0, .int .i64 a1, .agg #[.int .i64 a2_0, .int .i64 a2_1, .string a2_2]] w fun e w' => e = .returned (.bool r) ∧ Below w.heap.size w w' := by
  have hu27 := Try.underlying27
  have hu25 := Try.underlying25
  have HB := Aside0.mk (Below.refl w.heap.size w)
  have H : (if a0 < 0 then (lookoutlaw50_NetworkDelivers.j0 k a0 a1 true a2_0 a2_1 a2_2) else (if a0 > 576460752303423488 then (lookoutlaw50_NetworkDelivers.j0 k a0 a1 true a2_0 a2_1 a2_2) else (if a1 < 0 then (lookoutlaw50_NetworkDelivers.j0 k a0 a1 true a2_0 a2_1 a2_2) else (lookoutlaw50_NetworkDelivers.j0 k a0 a1 (decide ((a2_2.size : Int) > 2000)) a2_0 a2_1 a2_2)))) = some r := h
  clear h
  have HC4 := Aside0.mk H
  clear H
  go_enter Try.func8, Try.ntmps8
  go_upto_region 1 with (first | ((with_reducible refine gate_dst (N := 5) rfl ?_); (try (refine gate_guard (by rfl) ?_; dsimp only)); refine box_event ?hg (N := 5) ?hd (cs := #[.int .i64 a2_0, .int .i64 a2_1, .string a2_2]) (t := 27) ?hr ?_; (case hd => rfl); (case hg => rfl); (case hr => first | (go_simp; done) | (go_simp; rfl)); intro gb155 hg w5 hbox hb; have n0_ := Aside0.mk (below_step (by repeat (first | (with_reducible first | exact HB.out | apply below_alloc | apply pw_below_drewN | apply below_drew1) | exact HB.out)) hb); have n1_ := Aside0.mk (hbox); have n2_ := Aside0.mk ((by rw [hg]; exact (below_size (by repeat (first | (with_reducible first | exact HB.out | apply below_alloc | apply pw_below_drewN | apply below_drew1) | exact HB.out))) : w.heap.size ≤ gb155)); have n3_ := Aside0.mk ((by rw [hg]; exact (below_size (by repeat (first | (with_reducible first | exact HB.out | apply below_alloc | apply pw_below_drewN | apply below_drew1) | exact HB.out))) : w.heap.size ≤ gb155)); clear HB; have HB := n0_; have BK155 := n1_; have GW155 := n2_; have GE155 := n3_; clear n0_ n1_ n2_ n3_; clear hb hbox hg))
  (try simp only [Act.put, List.setIfInBounds_toArray, List.set_cons_zero, List.set_cons_succ])
  go_cut [33] (fun v33 wc => ∃ (kq : Nat) (x33_3 : Bool), v33 = .bool x33_3 ∧ Aside0 (lookoutlaw50_NetworkDelivers.j0 kq a0 a1 x33_3 a2_0 a2_1 a2_2 = some r) ∧ Aside0 (kq ≤ k) ∧ Aside0 (wc.heap[gb155]? = some (.cells #[.int .i64 a2_0, .int .i64 a2_1, .string a2_2] 27 (0, 0))) ∧ Aside0 (Below w.heap.size w wc))
  case first =>
    have H := HC4.out
    clear HC4
    by_cases c6 : a0 < 0
    · rw [if_pos c6] at H
      have c6b0 : decide (a0 < 0) = true := decide_eq_true c6
      clear c6
      (first | rw [c6b0] | (simp only [i64_w, i32_w]; rw [c6b0]) | rw [c6b1] | (simp only [i64_w, i32_w]; rw [c6b1]) | skip)
      have H' := Aside0.mk H
      clear H
      go_wp2
      go_meet
      case rel => exact ⟨_, (true), (by first | rfl | (simp; done) | (simp [*]; done)), H', ⟨by first | omega | exact Nat.le_refl _⟩, ⟨by (with_reducible repeat (first | refine blk_drewN ?_ _ | refine blk_drew ?_ | refine blk_alloc ?_ _)); exact BK155.out⟩, ⟨by repeat (first | (with_reducible first | exact HB.out | apply below_alloc | apply pw_below_drewN | apply below_drew1 | refine below_set ?_ GE155.out) | exact HB.out)⟩⟩
    · rw [if_neg c6] at H
      have c6b0 : decide (a0 < 0) = false := decide_eq_false c6
      clear c6
      (first | rw [c6b0] | (simp only [i64_w, i32_w]; rw [c6b0]) | rw [c6b1] | (simp only [i64_w, i32_w]; rw [c6b1]) | skip)
      by_cases c7 : a0 > 576460752303423488
      · rw [if_pos c7] at H
        have c7b0 : decide (576460752303423488 < a0) = true := decide_eq_true c7
        clear c7
        have H' := Aside0.mk H
        clear H
        go_wp2
        go_meet
        case rel => exact ⟨_, (true), (by first | rfl | (simp; done) | (simp [*]; done)), H', ⟨by first | omega | exact Nat.le_refl _⟩, ⟨by (with_reducible repeat (first | refine blk_drewN ?_ _ | refine blk_drew ?_ | refine blk_alloc ?_ _)); exact BK155.out⟩, ⟨by repeat (first | (with_reducible first | exact HB.out | apply below_alloc | apply pw_below_drewN | apply below_drew1 | refine below_set ?_ GE155.out) | exact HB.out)⟩⟩
      · rw [if_neg c7] at H
        have c7b0 : decide (576460752303423488 < a0) = false := decide_eq_false c7
        clear c7
        by_cases c8 : a1 < 0
        · rw [if_pos c8] at H
          have c8b0 : decide (a1 < 0) = true := decide_eq_true c8
          clear c8
          have H' := Aside0.mk H
          clear H
          go_wp2
          go_meet
          case rel => exact ⟨_, (true), (by first | rfl | (simp; done) | (simp [*]; done)), H', ⟨by first | omega | exact Nat.le_refl _⟩, ⟨by (with_reducible repeat (first | refine blk_drewN ?_ _ | refine blk_drew ?_ | refine blk_alloc ?_ _)); exact BK155.out⟩, ⟨by repeat (first | (with_reducible first | exact HB.out | apply below_alloc | apply pw_below_drewN | apply below_drew1 | refine below_set ?_ GE155.out) | exact HB.out)⟩⟩
        · rw [if_neg c8] at H
          have c8b0 : decide (a1 < 0) = false := decide_eq_false c8
          clear c8
          have H' := Aside0.mk H
          clear H
          have hcz9_0 : w5.cell? ⟨gb155, 0, none⟩ = some (.int .i64 a2_0) := (blk_cell BK155.out 0).trans rfl
          have hcz9_1 : w5.cell? ⟨gb155, 1, none⟩ = some (.int .i64 a2_1) := (blk_cell BK155.out 1).trans rfl
          have hcz9_2 : w5.cell? ⟨gb155, 2, none⟩ = some (.string a2_2) := (blk_cell BK155.out 2).trans rfl
          have hfz9_0 := blk_frozen BK155.out 0
          have hfz9_1 := blk_frozen BK155.out 1
          have hfz9_2 := blk_frozen BK155.out 2
          go_wp2
          go_meet
          case rel => exact ⟨_, (decide ((a2_2.size : Int) > 2000)), (by first | rfl | (simp; done) | (simp [*]; done)), H', ⟨by first | omega | exact Nat.le_refl _⟩, ⟨by (with_reducible repeat (first | refine blk_drewN ?_ _ | refine blk_drew ?_ | refine blk_alloc ?_ _)); exact BK155.out⟩, ⟨by repeat (first | (with_reducible first | exact HB.out | apply below_alloc | apply pw_below_drewN | apply below_drew1 | refine below_set ?_ GE155.out) | exact HB.out)⟩⟩
  case rest =>
    clear HC4
    try clear p2
    try clear c6
    try clear c6b0
    try clear c6b1
    try clear c7
    try clear c7b0
    try clear c8
    try clear c8b0
    try clear hcz9_0
    try clear hcz9_1
    try clear hcz9_2
    try clear hfz9_0
    try clear hfz9_1
    try clear hfz9_2
    obtain ⟨kq, x33_3, rfl, HA, HJ3, BK155, HB⟩ := hcut
    cases kq with
    | zero => exact absurd HA.out (by simp [lookoutlaw50_NetworkDelivers.j0])
    | succ kj3 =>
      have H := HA.out
      clear HA
      simp only [lookoutlaw50_NetworkDelivers.j0] at H
      by_cases c10 : x33_3 = true
      · subst c10
        have H1 : ((lookoutlaw50_awake.f kj3).bind fun t156 => (some t156)) = some r := by rw [if_pos rfl] at H; exact H
        clear H
        have H := H1
        clear H1
        replace H := Option.bind_eq_some_iff.mp H
        obtain ⟨t156, A110, H⟩ := H
        replace H : (some t156) = some r := H
        have A11 := Aside0.mk A110
        clear A110
        obtain rfl := Option.some.inj H
        go_wp2_with (first | ((with_reducible refine gate_callee (f := 11) rfl ?_); refine goesL_ (some 34) rfl rfl Try.func11 (by kernel_rfl) rfl #[] rfl (by (try simp only [List.map_toArray, List.map_cons, List.map_nil]); first | done | rfl | (simp only [List.length_drop, List.length_take]; rfl)) ?_; (with_reducible refine (lookoutlaw50_awake.calls kj3  t156 _ A11.out).mono ?_); rintro e w12 ⟨rfl, hb⟩; refine ⟨_, rfl, ?_⟩; have n0_ := Aside0.mk (blk_below (g := gb155) (o := .cells #[.int .i64 a2_0, .int .i64 a2_1, .string a2_2] 27 (0, 0)) (by (with_reducible repeat (first | refine blk_drewN ?_ _ | refine blk_drew ?_ | refine blk_alloc ?_ _)); exact BK155.out) hb); have n1_ := Aside0.mk (below_step (by repeat (first | (with_reducible first | exact HB.out | apply below_alloc | apply pw_below_drewN | apply below_drew1 | refine below_set ?_ GE155.out) | exact HB.out)) hb); clear BK155; clear HB; have BK155 := n0_; have HB := n1_; clear n0_ n1_; (try clear hb); (try clear hb2); (try clear hk); (try clear hi)))
        go_ret
        exact ⟨by first | rfl | (simp [errW_none, errW_some] <;> rfl) | (simp [*, errW_none, errW_some] <;> rfl), by repeat (first | (with_reducible first | exact HB.out | apply below_alloc | apply pw_below_drewN | apply below_drew1 | refine below_set ?_ GE155.out) | exact HB.out)⟩
      · replace c10 := Bool.eq_false_iff.mpr c10
        subst c10
        have H1 : ((network_Send.f kj3 a0 (([a1] : List Int)) ([] : List (S44)) a2_0 a2_1 a2_2).bind fun bt160 => (if bt160.2.2.2 = 0 then ((lookoutlaw50_steps.f kj3 bt160.1 bt160.2.1 bt160.2.2.1 8).bind fun bt173 => ((network_Delays.f a1).bind fun t185 => (if bt173.2.2.2.2 = true then ((network_Idle.f bt173.2.1 bt173.2.2.1 bt173.2.2.2.1).bind fun t188 => (if t188 = true then (if bt173.2.1 = (wrap64 (a0 + 8)) then (if (bt160.2.1.length : Int) = 0 then (lookoutlaw50_NetworkDelivers.j1 kj3 bt173.1 t185 (decide ((t185.length : Int) > 2)) a2_0 a2_1 a2_2) else (lookoutlaw50_NetworkDelivers.j1 kj3 bt173.1 t185 true a2_0 a2_1 a2_2)) else (lookoutlaw50_NetworkDelivers.j1 kj3 bt173.1 t185 true a2_0 a2_1 a2_2)) else (lookoutlaw50_NetworkDelivers.j1 kj3 bt173.1 t185 true a2_0 a2_1 a2_2))) else (lookoutlaw50_NetworkDelivers.j1 kj3 bt173.1 t185 true a2_0 a2_1 a2_2)))) else (if bt160.2.2.2 = 2 then (if a2_0 < (-1) then ((lookoutlaw50_awake.f kj3).bind fun t169 => (some t169)) else (if a2_0 > 15 then ((lookoutlaw50_awake.f kj3).bind fun t170 => (some t170)) else (if a2_1 < (-1) then ((lookoutlaw50_awake.f kj3).bind fun t171 => (some t171)) else (if a2_1 > 15 then ((lookoutlaw50_awake.f kj3).bind fun t172 => (some t172)) else (none))))) else (none)))) = some r := by rw [if_neg (show ¬ (false = true) by decide)] at H; exact H
        clear H
        have H := H1
        clear H1
        obtain ⟨y157, hy157⟩ : ∃ y_ : List Int, y_ = (([a1] : List Int)) := ⟨_, rfl⟩
        replace H : ((network_Send.f kj3 a0 y157 ([] : List (S44)) a2_0 a2_1 a2_2).bind fun bt160 => (if bt160.2.2.2 = 0 then ((lookoutlaw50_steps.f kj3 bt160.1 bt160.2.1 bt160.2.2.1 8).bind fun bt173 => ((network_Delays.f a1).bind fun t185 => (if bt173.2.2.2.2 = true then ((network_Idle.f bt173.2.1 bt173.2.2.1 bt173.2.2.2.1).bind fun t188 => (if t188 = true then (if bt173.2.1 = (wrap64 (a0 + 8)) then (if (bt160.2.1.length : Int) = 0 then (lookoutlaw50_NetworkDelivers.j1 kj3 bt173.1 t185 (decide ((t185.length : Int) > 2)) a2_0 a2_1 a2_2) else (lookoutlaw50_NetworkDelivers.j1 kj3 bt173.1 t185 true a2_0 a2_1 a2_2)) else (lookoutlaw50_NetworkDelivers.j1 kj3 bt173.1 t185 true a2_0 a2_1 a2_2)) else (lookoutlaw50_NetworkDelivers.j1 kj3 bt173.1 t185 true a2_0 a2_1 a2_2))) else (lookoutlaw50_NetworkDelivers.j1 kj3 bt173.1 t185 true a2_0 a2_1 a2_2)))) else (if bt160.2.2.2 = 2 then (if a2_0 < (-1) then ((lookoutlaw50_awake.f kj3).bind fun t169 => (some t169)) else (if a2_0 > 15 then ((lookoutlaw50_awake.f kj3).bind fun t170 => (some t170)) else (if a2_1 < (-1) then ((lookoutlaw50_awake.f kj3).bind fun t171 => (some t171)) else (if a2_1 > 15 then ((lookoutlaw50_awake.f kj3).bind fun t172 => (some t172)) else (none))))) else (none)))) = some r := by first | (rw [hy157]; with_reducible exact H) | (have H2_ := (Option.bind_some _ _).symm.trans H; rw [hy157]; with_reducible exact H2_) | (have H2_ := (Option.bind_some _ _).symm.trans H; with_reducible exact H2_) | with_reducible exact H | (rw [hy157]; exact H) | exact H
        have Ny157 := Aside0.mk hy157
        clear hy157
        replace H := Option.bind_eq_some_iff.mp H
        obtain ⟨⟨t160, t161, t164, t167⟩, A130, H⟩ := H
        replace H : (if t167 = 0 then ((lookoutlaw50_steps.f kj3 t160 t161 t164 8).bind fun bt173 => ((network_Delays.f a1).bind fun t185 => (if bt173.2.2.2.2 = true then ((network_Idle.f bt173.2.1 bt173.2.2.1 bt173.2.2.2.1).bind fun t188 => (if t188 = true then (if bt173.2.1 = (wrap64 (a0 + 8)) then (if (t161.length : Int) = 0 then (lookoutlaw50_NetworkDelivers.j1 kj3 bt173.1 t185 (decide ((t185.length : Int) > 2)) a2_0 a2_1 a2_2) else (lookoutlaw50_NetworkDelivers.j1 kj3 bt173.1 t185 true a2_0 a2_1 a2_2)) else (lookoutlaw50_NetworkDelivers.j1 kj3 bt173.1 t185 true a2_0 a2_1 a2_2)) else (lookoutlaw50_NetworkDelivers.j1 kj3 bt173.1 t185 true a2_0 a2_1 a2_2))) else (lookoutlaw50_NetworkDelivers.j1 kj3 bt173.1 t185 true a2_0 a2_1 a2_2)))) else (if t167 = 2 then (if a2_0 < (-1) then ((lookoutlaw50_awake.f kj3).bind fun t169 => (some t169)) else (if a2_0 > 15 then ((lookoutlaw50_awake.f kj3).bind fun t170 => (some t170)) else (if a2_1 < (-1) then ((lookoutlaw50_awake.f kj3).bind fun t171 => (some t171)) else (if a2_1 > 15 then ((lookoutlaw50_awake.f kj3).bind fun t172 => (some t172)) else (none))))) else (none))) = some r := H
        have A13 := Aside0.mk A130
        clear A130
        by_cases c14 : t167 = 0
        · rw [if_pos c14] at H
          have c14b0 : (t167 == 0) = true := beq_iff_eq.mpr c14
          have c14b1 : (t167 != 0) = false := bne_eq_false_iff_eq.mpr c14
          clear c14
          replace H := Option.bind_eq_some_iff.mp H
          obtain ⟨⟨t173, t176, t177, t180, t183⟩, A150, H⟩ := H
          replace H : ((network_Delays.f a1).bind fun t185 => (if t183 = true then ((network_Idle.f t176 t177 t180).bind fun t188 => (if t188 = true then (if t176 = (wrap64 (a0 + 8)) then (if (t161.length : Int) = 0 then (lookoutlaw50_NetworkDelivers.j1 kj3 t173 t185 (decide ((t185.length : Int) > 2)) a2_0 a2_1 a2_2) else (lookoutlaw50_NetworkDelivers.j1 kj3 t173 t185 true a2_0 a2_1 a2_2)) else (lookoutlaw50_NetworkDelivers.j1 kj3 t173 t185 true a2_0 a2_1 a2_2)) else (lookoutlaw50_NetworkDelivers.j1 kj3 t173 t185 true a2_0 a2_1 a2_2))) else (lookoutlaw50_NetworkDelivers.j1 kj3 t173 t185 true a2_0 a2_1 a2_2))) = some r := H
          have A15 := Aside0.mk A150
          clear A150
          replace H := Option.bind_eq_some_iff.mp H
          obtain ⟨t185, A160, H⟩ := H
          replace H : (if t183 = true then ((network_Idle.f t176 t177 t180).bind fun t188 => (if t188 = true then (if t176 = (wrap64 (a0 + 8)) then (if (t161.length : Int) = 0 then (lookoutlaw50_NetworkDelivers.j1 kj3 t173 t185 (decide ((t185.length : Int) > 2)) a2_0 a2_1 a2_2) else (lookoutlaw50_NetworkDelivers.j1 kj3 t173 t185 true a2_0 a2_1 a2_2)) else (lookoutlaw50_NetworkDelivers.j1 kj3 t173 t185 true a2_0 a2_1 a2_2)) else (lookoutlaw50_NetworkDelivers.j1 kj3 t173 t185 true a2_0 a2_1 a2_2))) else (lookoutlaw50_NetworkDelivers.j1 kj3 t173 t185 true a2_0 a2_1 a2_2)) = some r := H
          have A16 := Aside0.mk A160
          clear A160
          have HC17 := Aside0.mk H
          clear H
          go_upto_region 8 with (first | ((with_reducible refine gate_dst (N := 38) rfl ?_); (try (refine gate_guard (by rfl) ?_; dsimp only)); refine Kd.R_lit (Kd.int .i64) _ 3 ?hg (N := 38) ?hd (xs := ([a1] : List Int)) (inner := [.int .i64 a1]) (ok := fun _ => True) (okp := fun _ => True) ?hr ?hp (fun _ hk => hk) trivial (Below.refl _ _) (Nat.le_refl _) (by simp) ?_; (case hd => rfl); (case hg => rfl); (case hr => first | (go_simp; done) | (go_simp; rfl)); (case hp => exact (Reps.one (show Kd.M (Kd.int .i64) _ _ _ a1 [.int .i64 a1] from rfl) (Reps.none _ _))); intro v158 w18 ho19 hb hg_ hnew_; clear hg_ hnew_; (first | rw [← Ny157.out] at ho19 | (simp only [Int.reduceToNat] at ho19; rw [← Ny157.out] at ho19)); have n0_ := Aside0.mk (Kd.R_lower ho19 (below_size (by repeat (first | (with_reducible first | exact HB.out | apply below_alloc | apply pw_below_drewN | apply below_drew1 | refine below_set ?_ GE155.out) | exact HB.out)))); have n1_ := Aside0.mk (blk_below (g := gb155) (o := .cells #[.int .i64 a2_0, .int .i64 a2_1, .string a2_2] 27 (0, 0)) (by (with_reducible repeat (first | refine blk_drewN ?_ _ | refine blk_drew ?_ | refine blk_alloc ?_ _)); exact BK155.out) hb); have n2_ := Aside0.mk (below_step (by repeat (first | (with_reducible first | exact HB.out | apply below_alloc | apply pw_below_drewN | apply below_drew1 | refine below_set ?_ GE155.out) | exact HB.out)) hb); clear BK155; clear HB; have HO159 := n0_; have BK155 := n1_; have HB := n2_; clear n0_ n1_ n2_; clear hb ho19; obtain ⟨Ao20, co20, eo20⟩ := Kd.R_slice HO159.out; subst eo20; have hcz21_0 : w18.cell? ⟨gb155, 0, none⟩ = some (.int .i64 a2_0) := (blk_cell BK155.out 0).trans rfl; have hcz21_1 : w18.cell? ⟨gb155, 1, none⟩ = some (.int .i64 a2_1) := (blk_cell BK155.out 1).trans rfl; have hcz21_2 : w18.cell? ⟨gb155, 2, none⟩ = some (.string a2_2) := (blk_cell BK155.out 2).trans rfl; have hfz21_0 := blk_frozen BK155.out 0; have hfz21_1 := blk_frozen BK155.out 1; have hfz21_2 := blk_frozen BK155.out 2) | ((with_reducible refine gate_callee (f := 12) rfl ?_); refine goesL_ (some 41) rfl rfl Try.func12 (by kernel_rfl) rfl #[.agg #[.int .i64 a0, .slice Ao20 y157.length co20, .slice none 0 0], .agg #[.int .i64 a2_0, .int .i64 a2_1, .string a2_2]] rfl (by (try simp only [List.map_toArray, List.map_cons, List.map_nil]); first | done | rfl | (simp only [List.length_drop, List.length_take]; rfl)) ?_; (refine (network_Send.calls kj3 a0 (fun k_ => some k_ = (.slice Ao20 y157.length co20 : Value).ownBlock) _ _ y157 _ _ ([] : List (S44)) a2_0 a2_1 a2_2 t160 t161 t164 t167 _ ?side1 ?side2 ?side3 A13.out).mono ?_); (case side1 => exact Kd.R_V (Kd.R_tight rfl (Kd.R_types (HO159.out) BK155.out (by decide)))); (case side2 => exact Kd.C_nil _ _); (case side3 => exact Nat.le_refl _); rintro e w22 ⟨v162, v165, rfl, ho0, ho1, hb⟩; refine ⟨_, rfl, ?_⟩; have n0_ := Aside0.mk (Kd.R_below (by (with_reducible repeat (first | apply Kd.R_alloc | apply Kd.R_drewN | apply Kd.R_drew)); exact HO159.out) hb); have n1_ := Aside0.mk (Kd.V_lower (Kd.V_mono (ok' := fun k_ => some k_ ≠ (v165 : Value).ownBlock ∧ k_ ≠ gb155) ho0 (fun k_ hk_ => ⟨hk_.2, Or.elim hk_.1 (fun hs_ => ((Kd.R_types (HO159.out) BK155.out (by decide)).1 k_ hs_.symm).2) (fun hn_ => (Kd.freshB (g := gb155) (o := .cells #[.int .i64 a2_0, .int .i64 a2_1, .string a2_2] 27 (0, 0)) (by (with_reducible repeat (first | refine blk_drewN ?_ _ | refine blk_drew ?_ | refine blk_alloc ?_ _)); exact BK155.out) k_ hn_))⟩)) (below_size (by repeat (first | (with_reducible first | exact HB.out | apply below_alloc | apply pw_below_drewN | apply below_drew1 | refine below_set ?_ GE155.out) | exact HB.out)))); have n2_ := Aside0.mk (Kd.R_lower (Kd.R_mono (ok' := fun k_ => True) ho1 (fun _ hk_ => trivial)) (below_size (by repeat (first | (with_reducible first | exact HB.out | apply below_alloc | apply pw_below_drewN | apply below_drew1 | refine below_set ?_ GE155.out) | exact HB.out)))); have n3_ := Aside0.mk (blk_below (g := gb155) (o := .cells #[.int .i64 a2_0, .int .i64 a2_1, .string a2_2] 27 (0, 0)) (by (with_reducible repeat (first | refine blk_drewN ?_ _ | refine blk_drew ?_ | refine blk_alloc ?_ _)); exact BK155.out) hb); have n4_ := Aside0.mk (below_step (by repeat (first | (with_reducible first | exact HB.out | apply below_alloc | apply pw_below_drewN | apply below_drew1 | refine below_set ?_ GE155.out) | exact HB.out)) hb); clear HO159; clear BK155; clear HB; have HO159 := n0_; have HO163 := n1_; have HO166 := n2_; have BK155 := n3_; have HB := n4_; clear n0_ n1_ n2_ n3_ n4_; (try clear hb); (try clear hb2); (try clear hk); (try clear hi); (try clear ho0); (try clear ho1)) | ((with_reducible refine gate_dst (N := 7) rfl ?_); (try (refine gate_guard (by rfl) ?_; dsimp only)); refine box_event ?hg (N := 7) ?hd (cs := #[.int .i64 0, .slice none 0 0, .slice none 0 0]) (t := 25) ?hr ?_; (case hd => rfl); (case hg => rfl); (case hr => first | (go_simp; done) | (go_simp; rfl)); intro gb168 hg w23 hbox hb; have n0_ := Aside0.mk (Kd.R_below (by (with_reducible repeat (first | apply Kd.R_alloc | apply Kd.R_drewN | apply Kd.R_drew)); exact HO159.out) hb); have n1_ := Aside0.mk (Kd.V_below (Kd.V_elderB (by (with_reducible repeat (first | apply Kd.V_alloc | apply Kd.V_drewN | apply Kd.V_drew)); exact HO163.out) gb168 (Nat.le_of_eq hg.symm)) hb); have n2_ := Aside0.mk (Kd.R_below (by (with_reducible repeat (first | apply Kd.R_alloc | apply Kd.R_drewN | apply Kd.R_drew)); exact HO166.out) hb); have n3_ := Aside0.mk (blk_below (g := gb155) (o := .cells #[.int .i64 a2_0, .int .i64 a2_1, .string a2_2] 27 (0, 0)) (by (with_reducible repeat (first | refine blk_drewN ?_ _ | refine blk_drew ?_ | refine blk_alloc ?_ _)); exact BK155.out) hb); have n4_ := Aside0.mk (below_step (by repeat (first | (with_reducible first | exact HB.out | apply below_alloc | apply pw_below_drewN | apply below_drew1 | refine below_set ?_ GE155.out) | exact HB.out)) hb); have n5_ := Aside0.mk (hbox); have n6_ := Aside0.mk ((by rw [hg]; exact (below_size (by repeat (first | (with_reducible first | exact HB.out | apply below_alloc | apply pw_below_drewN | apply below_drew1 | refine below_set ?_ GE155.out) | exact HB.out))) : w.heap.size ≤ gb168)); have n7_ := Aside0.mk ((by rw [hg]; exact (below_size (by repeat (first | (with_reducible first | exact HB.out | apply below_alloc | apply pw_below_drewN | apply below_drew1 | refine below_set ?_ GE155.out) | exact HB.out))) : w.heap.size ≤ gb168)); have n8_ := Aside0.mk ((by rw [hg]; exact Nat.ne_of_lt (blk_lt (g := gb155) (o := .cells #[.int .i64 a2_0, .int .i64 a2_1, .string a2_2] 27 (0, 0)) (by (with_reducible repeat (first | refine blk_drewN ?_ _ | refine blk_drew ?_ | refine blk_alloc ?_ _)); exact BK155.out)) : gb155 ≠ gb168)); have n9_ := Aside0.mk ((by rw [hg]; exact Nat.ne_of_gt (blk_lt (g := gb155) (o := .cells #[.int .i64 a2_0, .int .i64 a2_1, .string a2_2] 27 (0, 0)) (by (with_reducible repeat (first | refine blk_drewN ?_ _ | refine blk_drew ?_ | refine blk_alloc ?_ _)); exact BK155.out)) : gb168 ≠ gb155)); clear HO159; clear HO163; clear HO166; clear BK155; clear HB; have HO159 := n0_; have HO163 := n1_; have HO166 := n2_; have BK155 := n3_; have HB := n4_; have BK168 := n5_; have GW168 := n6_; have GE168 := n7_; have NB155_168 := n8_; have NB168_155 := n9_; clear n0_ n1_ n2_ n3_ n4_ n5_ n6_ n7_ n8_ n9_; clear hb hbox hg; have hnb24 := NB168_155.out; have hnc24 := NB155_168.out; have hcz25_0 : w23.cell? ⟨gb168, 0, none⟩ = some (.int .i64 0) := (blk_cell BK168.out 0).trans rfl; have hcz25_1 : w23.cell? ⟨gb168, 1, none⟩ = some (.slice none 0 0) := (blk_cell BK168.out 1).trans rfl; have hcz25_2 : w23.cell? ⟨gb168, 2, none⟩ = some (.slice none 0 0) := (blk_cell BK168.out 2).trans rfl; have hfz25_0 := blk_frozen BK168.out 0; have hfz25_1 := blk_frozen BK168.out 1; have hfz25_2 := blk_frozen BK168.out 2; obtain ⟨Ao26, co26, eo26⟩ := Kd.V_slice HO163.out; subst eo26; obtain ⟨Ao27, co27, eo27⟩ := Kd.R_slice HO166.out; subst eo27) | ((with_reducible refine gate_store (t := 25) (p := 7) rfl ?_); refine store_event (t := 25) (p := 7) (v := ?vo_w28) (w1 := (((w23.setCell ⟨gb168, 0, none⟩ (.int .i64 t160)).setCell ⟨gb168, 1, none⟩ (.slice Ao26 t161.length co26)).setCell ⟨gb168, 2, none⟩ (.slice Ao27 t164.length co27))) ?hg ?ho ?hn ?hr ?_; (case ho => rfl); (case hg => rfl); (case hn => rfl); (case hr => first | (go_simp; done) | (go_simp; rfl)); intro w28 hw; have n0_ : Aside0 (Kd.R (Kd.int .i64) 3 w28 w.heap.size (fun _ => True) (.slice Ao20 y157.length co20) y157) := ⟨(by rw [hw]; exact (by (with_reducible repeat (first | apply Kd.R_alloc | apply Kd.R_drewN | apply Kd.R_drew)); exact Kd.R_mono (Kd.R_far (p := ⟨gb168, 2, none⟩) (Kd.R_far (p := ⟨gb168, 1, none⟩) (Kd.R_far (p := ⟨gb168, 0, none⟩) (Kd.R_types HO159.out BK168.out (by decide)) (fun _ hk => hk.2) (.int .i64 t160)) (fun _ hk => hk.2) (.slice Ao26 t161.length co26)) (fun _ hk => hk.2) (.slice Ao27 t164.length co27)) (fun _ hk => trivial)))⟩; have n1_ : Aside0 (Kd.V (Kd.int .i64) 3 w28 w.heap.size (fun k_ => some k_ ≠ (.slice Ao27 t164.length co27 : Value).ownBlock ∧ k_ ≠ gb155 ∧ k_ ≠ gb168) (.slice Ao26 t161.length co26) t161) := ⟨(by rw [hw]; exact (by (with_reducible repeat (first | apply Kd.V_alloc | apply Kd.V_drewN | apply Kd.V_drew)); exact Kd.V_mono (Kd.V_far (p := ⟨gb168, 2, none⟩) (Kd.V_far (p := ⟨gb168, 1, none⟩) (Kd.V_far (p := ⟨gb168, 0, none⟩) (Kd.V_mono HO163.out (fun k_ hk => (⟨hk, hk.2⟩ : _ ∧ k_ ≠ gb168))) (fun _ hk => hk.2) (.int .i64 t160)) (fun _ hk => hk.2) (.slice Ao26 t161.length co26)) (fun _ hk => hk.2) (.slice Ao27 t164.length co27)) (fun _ hk => ⟨hk.1.1.1, ⟨hk.1.1.2, hk.1.2⟩⟩)))⟩; have n2_ : Aside0 (Kd.R k44 44 w28 w.heap.size (fun _ => True) (.slice Ao27 t164.length co27) t164) := ⟨(by rw [hw]; exact (by (with_reducible repeat (first | apply Kd.R_alloc | apply Kd.R_drewN | apply Kd.R_drew)); exact Kd.R_mono (Kd.R_far (p := ⟨gb168, 2, none⟩) (Kd.R_far (p := ⟨gb168, 1, none⟩) (Kd.R_far (p := ⟨gb168, 0, none⟩) (Kd.R_types HO166.out BK168.out (by decide)) (fun _ hk => hk.2) (.int .i64 t160)) (fun _ hk => hk.2) (.slice Ao26 t161.length co26)) (fun _ hk => hk.2) (.slice Ao27 t164.length co27)) (fun _ hk => trivial)))⟩; have n3_ : Aside0 (w28.heap[gb155]? = some (.cells #[.int .i64 a2_0, .int .i64 a2_1, .string a2_2] 27 (0, 0))) := ⟨(by rw [hw]; exact (by (with_reducible repeat (first | refine blk_drewN ?_ _ | refine blk_drew ?_ | refine blk_alloc ?_ _)); refine blk_far ?_ NB155_168.out _; (with_reducible repeat (first | refine blk_drewN ?_ _ | refine blk_drew ?_ | refine blk_alloc ?_ _)); refine blk_far ?_ NB155_168.out _; (with_reducible repeat (first | refine blk_drewN ?_ _ | refine blk_drew ?_ | refine blk_alloc ?_ _)); refine blk_far ?_ NB155_168.out _; (with_reducible repeat (first | refine blk_drewN ?_ _ | refine blk_drew ?_ | refine blk_alloc ?_ _)); exact BK155.out))⟩; have n4_ : Aside0 (w28.heap[gb168]? = some (.cells #[.int .i64 t160, .slice Ao26 t161.length co26, .slice Ao27 t164.length co27] 25 (0, 0))) := ⟨(by rw [hw]; exact (by (with_reducible repeat (first | refine blk_drewN ?_ _ | refine blk_drew ?_ | refine blk_alloc ?_ _)); refine blk_put (cs := #[.int .i64 t160, .slice Ao26 t161.length co26, .slice none 0 0]) ?_ 2 _ rfl; (with_reducible repeat (first | refine blk_drewN ?_ _ | refine blk_drew ?_ | refine blk_alloc ?_ _)); refine blk_put (cs := #[.int .i64 t160, .slice none 0 0, .slice none 0 0]) ?_ 1 _ rfl; (with_reducible repeat (first | refine blk_drewN ?_ _ | refine blk_drew ?_ | refine blk_alloc ?_ _)); refine blk_put (cs := #[.int .i64 0, .slice none 0 0, .slice none 0 0]) ?_ 0 _ rfl; (with_reducible repeat (first | refine blk_drewN ?_ _ | refine blk_drew ?_ | refine blk_alloc ?_ _)); exact BK168.out))⟩; have n5_ : Aside0 (Below w.heap.size w w28) := ⟨(by rw [hw]; exact (by repeat (first | (with_reducible first | exact HB.out | apply below_alloc | apply pw_below_drewN | apply below_drew1 | refine below_set ?_ GE155.out | refine below_set ?_ GE168.out) | exact HB.out)))⟩; clear hw; clear HO159; clear HO163; clear HO166; clear BK155; clear BK168; clear HB; have HO159 := n0_; have HO163 := n1_; have HO166 := n2_; have BK155 := n3_; have BK168 := n4_; have HB := n5_; clear n0_ n1_ n2_ n3_ n4_ n5_; have hcz29_0 : w28.cell? ⟨gb168, 0, none⟩ = some (.int .i64 t160) := (blk_cell BK168.out 0).trans rfl; have hcz29_1 : w28.cell? ⟨gb168, 1, none⟩ = some (.slice Ao26 t161.length co26) := (blk_cell BK168.out 1).trans rfl; have hcz29_2 : w28.cell? ⟨gb168, 2, none⟩ = some (.slice Ao27 t164.length co27) := (blk_cell BK168.out 2).trans rfl; have hfz29_0 := blk_frozen BK168.out 0; have hfz29_1 := blk_frozen BK168.out 1; have hfz29_2 := blk_frozen BK168.out 2) | ((with_reducible refine gate_callee (f := 25) rfl ?_); refine goesL_ (some 73) rfl rfl Try.func25 (by kernel_rfl) rfl #[.agg #[.int .i64 t160, .slice Ao26 t161.length co26, .slice Ao27 t164.length co27], .int .i64 8] rfl (by (try simp only [List.map_toArray, List.map_cons, List.map_nil]); first | done | rfl | (simp only [List.length_drop, List.length_take]; rfl)) ?_; (with_reducible refine (lookoutlaw50_steps.calls kj3 t160 (fun k_ => (some k_ ≠ (.slice Ao27 t164.length co27 : Value).ownBlock ∧ (k_ ≠ gb155 ∧ k_ ≠ gb168))) _ _ t161 (fun k_ => some k_ = (.slice Ao27 t164.length co27 : Value).ownBlock) _ _ t164 8 t173 t176 t177 t180 t183 _ ?side1 ?side2 A15.out).mono ?_); (case side1 => exact HO163.out); (case side2 => exact Kd.R_V (Kd.R_tight rfl (Kd.R_types (Kd.R_types (Kd.R_apart' (HO166.out) (Kd.R_typed HO159.out) (by decide)) BK155.out (by decide)) BK168.out (by decide)))); rintro e w30 ⟨v174, v178, v181, rfl, ho0, ho1, ho2, hb⟩; refine ⟨_, rfl, ?_⟩; have n0_ := Aside0.mk (Kd.R_below (by (with_reducible repeat (first | apply Kd.R_alloc | apply Kd.R_drewN | apply Kd.R_drew)); exact HO159.out) hb); have n1_ := Aside0.mk (Kd.V_elder' (by (with_reducible repeat (first | apply Kd.V_alloc | apply Kd.V_drewN | apply Kd.V_drew)); exact HO163.out) (Kd.S_base ho0) hb); have n2_ := Aside0.mk (Kd.R_below (by (with_reducible repeat (first | apply Kd.R_alloc | apply Kd.R_drewN | apply Kd.R_drew)); exact HO166.out) hb); have n3_ := Aside0.mk (Kd.S_lower (Kd.S_newB (Kd.S_mono (ok' := fun k_ => True) ho0 (fun _ hk_ => trivial)) (g := gb155) (o := .cells #[.int .i64 a2_0, .int .i64 a2_1, .string a2_2] 27 (0, 0)) (by (with_reducible repeat (first | refine blk_drewN ?_ _ | refine blk_drew ?_ | refine blk_alloc ?_ _)); exact BK155.out)) (below_size (by repeat (first | (with_reducible first | exact HB.out | apply below_alloc | apply pw_below_drewN | apply below_drew1 | refine below_set ?_ GE155.out | refine below_set ?_ GE168.out) | exact HB.out)))); have n4_ := Aside0.mk (Kd.V_lower (Kd.V_mono (ok' := fun k_ => some k_ ≠ (v174 : Value).ownBlock ∧ k_ ≠ gb155 ∧ k_ ≠ gb168) ho1 (fun k_ hk_ => ⟨hk_.2, Or.elim hk_.1 (fun hs_ => Or.elim hs_ (fun hs_ => hs_.2.1) (fun hs_ => ((Kd.R_types (Kd.R_types (Kd.R_apart' (HO166.out) (Kd.R_typed HO159.out) (by decide)) BK155.out (by decide)) BK168.out (by decide)).1 k_ hs_.symm).1.2)) (fun hn_ => (Kd.freshB (g := gb155) (o := .cells #[.int .i64 a2_0, .int .i64 a2_1, .string a2_2] 27 (0, 0)) (by (with_reducible repeat (first | refine blk_drewN ?_ _ | refine blk_drew ?_ | refine blk_alloc ?_ _)); exact BK155.out) k_ hn_)), Or.elim hk_.1 (fun hs_ => Or.elim hs_ (fun hs_ => hs_.2.2) (fun hs_ => ((Kd.R_types (Kd.R_types (Kd.R_apart' (HO166.out) (Kd.R_typed HO159.out) (by decide)) BK155.out (by decide)) BK168.out (by decide)).1 k_ hs_.symm).2)) (fun hn_ => (Kd.freshB (g := gb168) (o := .cells #[.int .i64 t160, .slice Ao26 t161.length co26, .slice Ao27 t164.length co27] 25 (0, 0)) (by (with_reducible repeat (first | refine blk_drewN ?_ _ | refine blk_drew ?_ | refine blk_alloc ?_ _)); exact BK168.out) k_ hn_))⟩)) (below_size (by repeat (first | (with_reducible first | exact HB.out | apply below_alloc | apply pw_below_drewN | apply below_drew1 | refine below_set ?_ GE155.out | refine below_set ?_ GE168.out) | exact HB.out)))); have n5_ := Aside0.mk (Kd.V_lower (Kd.V_mono (ok' := fun k_ => some k_ ≠ (v174 : Value).ownBlock ∧ k_ ≠ gb155 ∧ k_ ≠ gb168) ho2 (fun k_ hk_ => ⟨hk_.2, Or.elim hk_.1 (fun hs_ => Or.elim hs_ (fun hs_ => hs_.2.1) (fun hs_ => ((Kd.R_types (Kd.R_types (Kd.R_apart' (HO166.out) (Kd.R_typed HO159.out) (by decide)) BK155.out (by decide)) BK168.out (by decide)).1 k_ hs_.symm).1.2)) (fun hn_ => (Kd.freshB (g := gb155) (o := .cells #[.int .i64 a2_0, .int .i64 a2_1, .string a2_2] 27 (0, 0)) (by (with_reducible repeat (first | refine blk_drewN ?_ _ | refine blk_drew ?_ | refine blk_alloc ?_ _)); exact BK155.out) k_ hn_)), Or.elim hk_.1 (fun hs_ => Or.elim hs_ (fun hs_ => hs_.2.2) (fun hs_ => ((Kd.R_types (Kd.R_types (Kd.R_apart' (HO166.out) (Kd.R_typed HO159.out) (by decide)) BK155.out (by decide)) BK168.out (by decide)).1 k_ hs_.symm).2)) (fun hn_ => (Kd.freshB (g := gb168) (o := .cells #[.int .i64 t160, .slice Ao26 t161.length co26, .slice Ao27 t164.length co27] 25 (0, 0)) (by (with_reducible repeat (first | refine blk_drewN ?_ _ | refine blk_drew ?_ | refine blk_alloc ?_ _)); exact BK168.out) k_ hn_))⟩)) (below_size (by repeat (first | (with_reducible first | exact HB.out | apply below_alloc | apply pw_below_drewN | apply below_drew1 | refine below_set ?_ GE155.out | refine below_set ?_ GE168.out) | exact HB.out)))); have n6_ := Aside0.mk (blk_below (g := gb155) (o := .cells #[.int .i64 a2_0, .int .i64 a2_1, .string a2_2] 27 (0, 0)) (by (with_reducible repeat (first | refine blk_drewN ?_ _ | refine blk_drew ?_ | refine blk_alloc ?_ _)); exact BK155.out) hb); have n7_ := Aside0.mk (blk_below (g := gb168) (o := .cells #[.int .i64 t160, .slice Ao26 t161.length co26, .slice Ao27 t164.length co27] 25 (0, 0)) (by (with_reducible repeat (first | refine blk_drewN ?_ _ | refine blk_drew ?_ | refine blk_alloc ?_ _)); exact BK168.out) hb); have n8_ := Aside0.mk (below_step (by repeat (first | (with_reducible first | exact HB.out | apply below_alloc | apply pw_below_drewN | apply below_drew1 | refine below_set ?_ GE155.out | refine below_set ?_ GE168.out) | exact HB.out)) hb); clear HO159; clear HO163; clear HO166; clear BK155; clear BK168; clear HB; have HO159 := n0_; have HO163 := n1_; have HO166 := n2_; have HO175 := n3_; have HO179 := n4_; have HO182 := n5_; have BK155 := n6_; have BK168 := n7_; have HB := n8_; clear n0_ n1_ n2_ n3_ n4_ n5_ n6_ n7_ n8_; (try clear hb); (try clear hb2); (try clear hk); (try clear hi); (try clear ho0); (try clear ho1); (try clear ho2)) | ((with_reducible refine gate_dst (N := 10) rfl ?_); (try (refine gate_guard (by rfl) ?_; dsimp only)); refine box_event ?hg (N := 10) ?hd (cs := #[.int .i64 0, .slice none 0 0, .slice none 0 0]) (t := 25) ?hr ?_; (case hd => rfl); (case hg => rfl); (case hr => first | (go_simp; done) | (go_simp; rfl)); intro gb184 hg w31 hbox hb; have n0_ := Aside0.mk (Kd.R_below (by (with_reducible repeat (first | apply Kd.R_alloc | apply Kd.R_drewN | apply Kd.R_drew)); exact HO159.out) hb); have n1_ := Aside0.mk (Kd.V_below (Kd.V_elderB (by (with_reducible repeat (first | apply Kd.V_alloc | apply Kd.V_drewN | apply Kd.V_drew)); exact HO163.out) gb184 (Nat.le_of_eq hg.symm)) hb); have n2_ := Aside0.mk (Kd.R_below (by (with_reducible repeat (first | apply Kd.R_alloc | apply Kd.R_drewN | apply Kd.R_drew)); exact HO166.out) hb); have n3_ := Aside0.mk (Kd.S_below (by (with_reducible repeat (first | apply Kd.S_alloc | apply Kd.S_drewN | apply Kd.S_drew)); exact HO175.out) hb); have n4_ := Aside0.mk (Kd.V_below (Kd.V_elderB (by (with_reducible repeat (first | apply Kd.V_alloc | apply Kd.V_drewN | apply Kd.V_drew)); exact HO179.out) gb184 (Nat.le_of_eq hg.symm)) hb); have n5_ := Aside0.mk (Kd.V_below (Kd.V_elderB (by (with_reducible repeat (first | apply Kd.V_alloc | apply Kd.V_drewN | apply Kd.V_drew)); exact HO182.out) gb184 (Nat.le_of_eq hg.symm)) hb); have n6_ := Aside0.mk (blk_below (g := gb155) (o := .cells #[.int .i64 a2_0, .int .i64 a2_1, .string a2_2] 27 (0, 0)) (by (with_reducible repeat (first | refine blk_drewN ?_ _ | refine blk_drew ?_ | refine blk_alloc ?_ _)); exact BK155.out) hb); have n7_ := Aside0.mk (blk_below (g := gb168) (o := .cells #[.int .i64 t160, .slice Ao26 t161.length co26, .slice Ao27 t164.length co27] 25 (0, 0)) (by (with_reducible repeat (first | refine blk_drewN ?_ _ | refine blk_drew ?_ | refine blk_alloc ?_ _)); exact BK168.out) hb); have n8_ := Aside0.mk (below_step (by repeat (first | (with_reducible first | exact HB.out | apply below_alloc | apply pw_below_drewN | apply below_drew1 | refine below_set ?_ GE155.out | refine below_set ?_ GE168.out) | exact HB.out)) hb); have n9_ := Aside0.mk (hbox); have n10_ := Aside0.mk ((by rw [hg]; exact (below_size (by repeat (first | (with_reducible first | exact HB.out | apply below_alloc | apply pw_below_drewN | apply below_drew1 | refine below_set ?_ GE155.out | refine below_set ?_ GE168.out) | exact HB.out))) : w.heap.size ≤ gb184)); have n11_ := Aside0.mk ((by rw [hg]; exact (below_size (by repeat (first | (with_reducible first | exact HB.out | apply below_alloc | apply pw_below_drewN | apply below_drew1 | refine below_set ?_ GE155.out | refine below_set ?_ GE168.out) | exact HB.out))) : w.heap.size ≤ gb184)); have n12_ := Aside0.mk ((by rw [hg]; exact Nat.ne_of_lt (blk_lt (g := gb155) (o := .cells #[.int .i64 a2_0, .int .i64 a2_1, .string a2_2] 27 (0, 0)) (by (with_reducible repeat (first | refine blk_drewN ?_ _ | refine blk_drew ?_ | refine blk_alloc ?_ _)); exact BK155.out)) : gb155 ≠ gb184)); have n13_ := Aside0.mk ((by rw [hg]; exact Nat.ne_of_gt (blk_lt (g := gb155) (o := .cells #[.int .i64 a2_0, .int .i64 a2_1, .string a2_2] 27 (0, 0)) (by (with_reducible repeat (first | refine blk_drewN ?_ _ | refine blk_drew ?_ | refine blk_alloc ?_ _)); exact BK155.out)) : gb184 ≠ gb155)); have n14_ := Aside0.mk ((by rw [hg]; exact Nat.ne_of_lt (blk_lt (g := gb168) (o := .cells #[.int .i64 t160, .slice Ao26 t161.length co26, .slice Ao27 t164.length co27] 25 (0, 0)) (by (with_reducible repeat (first | refine blk_drewN ?_ _ | refine blk_drew ?_ | refine blk_alloc ?_ _)); exact BK168.out)) : gb168 ≠ gb184)); have n15_ := Aside0.mk ((by rw [hg]; exact Nat.ne_of_gt (blk_lt (g := gb168) (o := .cells #[.int .i64 t160, .slice Ao26 t161.length co26, .slice Ao27 t164.length co27] 25 (0, 0)) (by (with_reducible repeat (first | refine blk_drewN ?_ _ | refine blk_drew ?_ | refine blk_alloc ?_ _)); exact BK168.out)) : gb184 ≠ gb168)); clear HO159; clear HO163; clear HO166; clear HO175; clear HO179; clear HO182; clear BK155; clear BK168; clear HB; have HO159 := n0_; have HO163 := n1_; have HO166 := n2_; have HO175 := n3_; have HO179 := n4_; have HO182 := n5_; have BK155 := n6_; have BK168 := n7_; have HB := n8_; have BK184 := n9_; have GW184 := n10_; have GE184 := n11_; have NB155_184 := n12_; have NB184_155 := n13_; have NB168_184 := n14_; have NB184_168 := n15_; clear n0_ n1_ n2_ n3_ n4_ n5_ n6_ n7_ n8_ n9_ n10_ n11_ n12_ n13_ n14_ n15_; clear hb hbox hg; have hnb32 := NB184_155.out; have hnc32 := NB155_184.out; have hnb33 := NB184_168.out; have hnc33 := NB168_184.out; have hcz34_0 : w31.cell? ⟨gb184, 0, none⟩ = some (.int .i64 0) := (blk_cell BK184.out 0).trans rfl; have hcz34_1 : w31.cell? ⟨gb184, 1, none⟩ = some (.slice none 0 0) := (blk_cell BK184.out 1).trans rfl; have hcz34_2 : w31.cell? ⟨gb184, 2, none⟩ = some (.slice none 0 0) := (blk_cell BK184.out 2).trans rfl; have hfz34_0 := blk_frozen BK184.out 0; have hfz34_1 := blk_frozen BK184.out 1; have hfz34_2 := blk_frozen BK184.out 2; obtain ⟨Ao35, co35, eo35⟩ := Kd.V_slice HO179.out; subst eo35; obtain ⟨Ao36, co36, eo36⟩ := Kd.V_slice HO182.out; subst eo36) | ((with_reducible refine gate_callee (f := 18) rfl ?_); refine goesL_ (some 78) rfl rfl Try.func18 (by kernel_rfl) rfl #[.int .i64 a1] rfl (by (try simp only [List.map_toArray, List.map_cons, List.map_nil]); first | done | rfl | (simp only [List.length_drop, List.length_take]; rfl)) ?_; (with_reducible refine (network_Delays.calls a1 t185 _ A16.out).mono ?_); rintro e w37 ⟨v186, rfl, ho0, hb⟩; refine ⟨_, rfl, ?_⟩; have n0_ := Aside0.mk (Kd.R_elder' (by (with_reducible repeat (first | apply Kd.R_alloc | apply Kd.R_drewN | apply Kd.R_drew)); exact (Kd.R_mono (Kd.R_far (p := ⟨gb184, 2, none⟩) (Kd.R_far (p := ⟨gb184, 1, none⟩) (Kd.R_far (p := ⟨gb184, 0, none⟩) (Kd.R_types HO159.out BK184.out (by decide)) (fun _ hk => hk.2) (.int .i64 t176)) (fun _ hk => hk.2) (.slice Ao35 t177.length co35)) (fun _ hk => hk.2) (.slice Ao36 t180.length co36)) (fun _ h_ => h_.1))) (Kd.R_base ho0) hb); have n1_ := Aside0.mk (Kd.V_elder' (by (with_reducible repeat (first | apply Kd.V_alloc | apply Kd.V_drewN | apply Kd.V_drew)); exact (Kd.V_mono (Kd.V_far (p := ⟨gb184, 2, none⟩) (Kd.V_far (p := ⟨gb184, 1, none⟩) (Kd.V_far (p := ⟨gb184, 0, none⟩) (Kd.V_mono HO163.out (fun k_ hk => (⟨hk, hk.2⟩ : _ ∧ k_ ≠ gb184))) (fun _ hk => hk.2) (.int .i64 t176)) (fun _ hk => hk.2) (.slice Ao35 t177.length co35)) (fun _ hk => hk.2) (.slice Ao36 t180.length co36)) (fun _ h_ => h_.1))) (Kd.R_base ho0) hb); have n2_ := Aside0.mk (Kd.R_below (by (with_reducible repeat (first | apply Kd.R_alloc | apply Kd.R_drewN | apply Kd.R_drew)); exact (Kd.R_mono (Kd.R_far (p := ⟨gb184, 2, none⟩) (Kd.R_far (p := ⟨gb184, 1, none⟩) (Kd.R_far (p := ⟨gb184, 0, none⟩) (Kd.R_types HO166.out BK184.out (by decide)) (fun _ hk => hk.2) (.int .i64 t176)) (fun _ hk => hk.2) (.slice Ao35 t177.length co35)) (fun _ hk => hk.2) (.slice Ao36 t180.length co36)) (fun _ h_ => h_.1))) hb); have n3_ := Aside0.mk (Kd.S_below (by (with_reducible repeat (first | apply Kd.S_alloc | apply Kd.S_drewN | apply Kd.S_drew)); exact (Kd.S_mono (Kd.S_far (p := ⟨gb184, 2, none⟩) (Kd.S_far (p := ⟨gb184, 1, none⟩) (Kd.S_far (p := ⟨gb184, 0, none⟩) (Kd.S_types HO175.out BK184.out (by decide)) (fun _ hk => hk.2) (.int .i64 t176)) (fun _ hk => hk.2) (.slice Ao35 t177.length co35)) (fun _ hk => hk.2) (.slice Ao36 t180.length co36)) (fun _ h_ => h_.1))) hb); have n4_ := Aside0.mk (Kd.V_elder' (by (with_reducible repeat (first | apply Kd.V_alloc | apply Kd.V_drewN | apply Kd.V_drew)); exact (Kd.V_mono (Kd.V_far (p := ⟨gb184, 2, none⟩) (Kd.V_far (p := ⟨gb184, 1, none⟩) (Kd.V_far (p := ⟨gb184, 0, none⟩) (Kd.V_mono HO179.out (fun k_ hk => (⟨hk, hk.2⟩ : _ ∧ k_ ≠ gb184))) (fun _ hk => hk.2) (.int .i64 t176)) (fun _ hk => hk.2) (.slice Ao35 t177.length co35)) (fun _ hk => hk.2) (.slice Ao36 t180.length co36)) (fun _ h_ => h_.1))) (Kd.R_base ho0) hb); have n5_ := Aside0.mk (Kd.V_elder' (by (with_reducible repeat (first | apply Kd.V_alloc | apply Kd.V_drewN | apply Kd.V_drew)); exact (Kd.V_mono (Kd.V_far (p := ⟨gb184, 2, none⟩) (Kd.V_far (p := ⟨gb184, 1, none⟩) (Kd.V_far (p := ⟨gb184, 0, none⟩) (Kd.V_mono HO182.out (fun k_ hk => (⟨hk, hk.2⟩ : _ ∧ k_ ≠ gb184))) (fun _ hk => hk.2) (.int .i64 t176)) (fun _ hk => hk.2) (.slice Ao35 t177.length co35)) (fun _ hk => hk.2) (.slice Ao36 t180.length co36)) (fun _ h_ => h_.1))) (Kd.R_base ho0) hb); have n6_ := Aside0.mk (Kd.R_lower (Kd.R_new' ho0 (Kd.R_lt (by (with_reducible repeat (first | apply Kd.R_alloc | apply Kd.R_drewN | apply Kd.R_drew)); exact (Kd.R_mono (Kd.R_far (p := ⟨gb184, 2, none⟩) (Kd.R_far (p := ⟨gb184, 1, none⟩) (Kd.R_far (p := ⟨gb184, 0, none⟩) (Kd.R_types HO159.out BK184.out (by decide)) (fun _ hk => hk.2) (.int .i64 t176)) (fun _ hk => hk.2) (.slice Ao35 t177.length co35)) (fun _ hk => hk.2) (.slice Ao36 t180.length co36)) (fun _ h_ => h_.1))))) (below_size (by repeat (first | (with_reducible first | exact HB.out | apply below_alloc | apply pw_below_drewN | apply below_drew1 | refine below_set ?_ GE155.out | refine below_set ?_ GE168.out | refine below_set ?_ GE184.out) | exact HB.out)))); have n7_ := Aside0.mk (blk_below (g := gb155) (o := .cells #[.int .i64 a2_0, .int .i64 a2_1, .string a2_2] 27 (0, 0)) (by (with_reducible repeat (first | refine blk_drewN ?_ _ | refine blk_drew ?_ | refine blk_alloc ?_ _)); refine blk_far ?_ NB155_184.out _; (with_reducible repeat (first | refine blk_drewN ?_ _ | refine blk_drew ?_ | refine blk_alloc ?_ _)); refine blk_far ?_ NB155_184.out _; (with_reducible repeat (first | refine blk_drewN ?_ _ | refine blk_drew ?_ | refine blk_alloc ?_ _)); refine blk_far ?_ NB155_184.out _; (with_reducible repeat (first | refine blk_drewN ?_ _ | refine blk_drew ?_ | refine blk_alloc ?_ _)); exact BK155.out) hb); have n8_ := Aside0.mk (blk_below (g := gb168) (o := .cells #[.int .i64 t160, .slice Ao26 t161.length co26, .slice Ao27 t164.length co27] 25 (0, 0)) (by (with_reducible repeat (first | refine blk_drewN ?_ _ | refine blk_drew ?_ | refine blk_alloc ?_ _)); refine blk_far ?_ NB168_184.out _; (with_reducible repeat (first | refine blk_drewN ?_ _ | refine blk_drew ?_ | refine blk_alloc ?_ _)); refine blk_far ?_ NB168_184.out _; (with_reducible repeat (first | refine blk_drewN ?_ _ | refine blk_drew ?_ | refine blk_alloc ?_ _)); refine blk_far ?_ NB168_184.out _; (with_reducible repeat (first | refine blk_drewN ?_ _ | refine blk_drew ?_ | refine blk_alloc ?_ _)); exact BK168.out) hb); have n9_ := Aside0.mk (blk_below (g := gb184) (o := .cells #[.int .i64 t176, .slice Ao35 t177.length co35, .slice Ao36 t180.length co36] 25 (0, 0)) (by (with_reducible repeat (first | refine blk_drewN ?_ _ | refine blk_drew ?_ | refine blk_alloc ?_ _)); refine blk_put (cs := #[.int .i64 t176, .slice Ao35 t177.length co35, .slice none 0 0]) ?_ 2 _ rfl; (with_reducible repeat (first | refine blk_drewN ?_ _ | refine blk_drew ?_ | refine blk_alloc ?_ _)); refine blk_put (cs := #[.int .i64 t176, .slice none 0 0, .slice none 0 0]) ?_ 1 _ rfl; (with_reducible repeat (first | refine blk_drewN ?_ _ | refine blk_drew ?_ | refine blk_alloc ?_ _)); refine blk_put (cs := #[.int .i64 0, .slice none 0 0, .slice none 0 0]) ?_ 0 _ rfl; (with_reducible repeat (first | refine blk_drewN ?_ _ | refine blk_drew ?_ | refine blk_alloc ?_ _)); exact BK184.out) hb); have n10_ := Aside0.mk (below_step (by repeat (first | (with_reducible first | exact HB.out | apply below_alloc | apply pw_below_drewN | apply below_drew1 | refine below_set ?_ GE155.out | refine below_set ?_ GE168.out | refine below_set ?_ GE184.out) | exact HB.out)) hb); clear HO159; clear HO163; clear HO166; clear HO175; clear HO179; clear HO182; clear BK155; clear BK168; clear BK184; clear HB; have HO159 := n0_; have HO163 := n1_; have HO166 := n2_; have HO175 := n3_; have HO179 := n4_; have HO182 := n5_; have HO187 := n6_; have BK155 := n7_; have BK168 := n8_; have BK184 := n9_; have HB := n10_; clear n0_ n1_ n2_ n3_ n4_ n5_ n6_ n7_ n8_ n9_ n10_; (try clear hb); (try clear hb2); (try clear hk); (try clear hi); (try clear ho0)))
          (try simp only [Act.put, List.setIfInBounds_toArray, List.set_cons_zero, List.set_cons_succ])
          go_cut [103] (fun v103 wc => ∃ (kq : Nat) (x103_16 : Bool), v103 = .bool x103_16 ∧ Aside0 (lookoutlaw50_NetworkDelivers.j1 kq t173 t185 x103_16 a2_0 a2_1 a2_2 = some r) ∧ Aside0 (kq ≤ kj3) ∧ Aside0 (Kd.S (Kd.slice 27 k27) 38 wc w.heap.size (fun k_ => k_ ≠ gb155) v174 t173) ∧ Aside0 (Kd.R (Kd.int .i64) 3 wc w.heap.size (fun _ => True) v186 t185) ∧ Aside0 (Kd.V (Kd.int .i64) 3 wc w.heap.size (fun k_ => some k_ ≠ (v174 : Value).ownBlock ∧ some k_ ≠ (v186 : Value).ownBlock ∧ some k_ ≠ ((.slice Ao27 t164.length co27) : Value).ownBlock ∧ k_ ≠ gb155 ∧ k_ ≠ gb168 ∧ k_ ≠ gb184) (.slice Ao26 t161.length co26) t161) ∧ Aside0 (Kd.R k44 44 wc w.heap.size (fun _ => True) (.slice Ao27 t164.length co27) t164) ∧ Aside0 (Kd.V (Kd.int .i64) 3 wc w.heap.size (fun k_ => some k_ ≠ (v174 : Value).ownBlock ∧ some k_ ≠ (v186 : Value).ownBlock ∧ k_ ≠ gb155 ∧ k_ ≠ gb168 ∧ k_ ≠ gb184) (.slice Ao35 t177.length co35) t177) ∧ Aside0 (Kd.V k44 44 wc w.heap.size (fun k_ => some k_ ≠ (v174 : Value).ownBlock ∧ some k_ ≠ (v186 : Value).ownBlock ∧ k_ ≠ gb155 ∧ k_ ≠ gb168 ∧ k_ ≠ gb184) (.slice Ao36 t180.length co36) t180) ∧ Aside0 (wc.heap[gb155]? = some (.cells #[.int .i64 a2_0, .int .i64 a2_1, .string a2_2] 27 (0, 0))) ∧ Aside0 (wc.heap[gb168]? = some (.cells #[.int .i64 t160, (.slice Ao26 t161.length co26), (.slice Ao27 t164.length co27)] 25 (0, 0))) ∧ Aside0 (wc.heap[gb184]? = some (.cells #[.int .i64 t176, (.slice Ao35 t177.length co35), (.slice Ao36 t180.length co36)] 25 (0, 0))) ∧ Aside0 (Below w.heap.size w wc))
          case first =>
            have H := HC17.out
            clear HC17
            by_cases c38 : t183 = true
            · subst c38
              have H1 : ((network_Idle.f t176 t177 t180).bind fun t188 => (if t188 = true then (if t176 = (wrap64 (a0 + 8)) then (if (t161.length : Int) = 0 then (lookoutlaw50_NetworkDelivers.j1 kj3 t173 t185 (decide ((t185.length : Int) > 2)) a2_0 a2_1 a2_2) else (lookoutlaw50_NetworkDelivers.j1 kj3 t173 t185 true a2_0 a2_1 a2_2)) else (lookoutlaw50_NetworkDelivers.j1 kj3 t173 t185 true a2_0 a2_1 a2_2)) else (lookoutlaw50_NetworkDelivers.j1 kj3 t173 t185 true a2_0 a2_1 a2_2))) = some r := by rw [if_pos rfl] at H; exact H
              clear H
              have H := H1
              clear H1
              replace H := Option.bind_eq_some_iff.mp H
              obtain ⟨t188, A390, H⟩ := H
              replace H : (if t188 = true then (if t176 = (wrap64 (a0 + 8)) then (if (t161.length : Int) = 0 then (lookoutlaw50_NetworkDelivers.j1 kj3 t173 t185 (decide ((t185.length : Int) > 2)) a2_0 a2_1 a2_2) else (lookoutlaw50_NetworkDelivers.j1 kj3 t173 t185 true a2_0 a2_1 a2_2)) else (lookoutlaw50_NetworkDelivers.j1 kj3 t173 t185 true a2_0 a2_1 a2_2)) else (lookoutlaw50_NetworkDelivers.j1 kj3 t173 t185 true a2_0 a2_1 a2_2)) = some r := H
              have A39 := Aside0.mk A390
              clear A390
              by_cases c40 : t188 = true
              · subst c40
                have H1 : (if t176 = (wrap64 (a0 + 8)) then (if (t161.length : Int) = 0 then (lookoutlaw50_NetworkDelivers.j1 kj3 t173 t185 (decide ((t185.length : Int) > 2)) a2_0 a2_1 a2_2) else (lookoutlaw50_NetworkDelivers.j1 kj3 t173 t185 true a2_0 a2_1 a2_2)) else (lookoutlaw50_NetworkDelivers.j1 kj3 t173 t185 true a2_0 a2_1 a2_2)) = some r := by rw [if_pos rfl] at H; exact H
                clear H
                have H := H1
                clear H1
                by_cases c41 : t176 = (wrap64 (a0 + 8))
                · rw [if_pos c41] at H
                  have c41b0 : (t176 == (wrap64 (a0 + 8))) = true := beq_iff_eq.mpr c41
                  have c41b1 : (t176 != (wrap64 (a0 + 8))) = false := bne_eq_false_iff_eq.mpr c41
                  clear c41
                  (first | rw [c41b0] | (simp only [i64_w, i32_w]; rw [c41b0]) | rw [c41b1] | (simp only [i64_w, i32_w]; rw [c41b1]) | skip)
                  by_cases c42 : (t161.length : Int) = 0
                  · rw [if_pos c42] at H
                    have c42b0 : ((t161.length : Int) == 0) = true := beq_iff_eq.mpr c42
                    have c42b1 : ((t161.length : Int) != 0) = false := bne_eq_false_iff_eq.mpr c42
                    clear c42
                    have H' := Aside0.mk H
                    clear H
                    have hnb43 := NB184_155.out
                    have hnc43 := NB155_184.out
                    have hnb44 := NB184_168.out
                    have hnc44 := NB168_184.out
                    have hcz45_0 : w37.cell? ⟨gb184, 0, none⟩ = some (.int .i64 t176) := (blk_cell BK184.out 0).trans rfl
                    have hcz45_1 : w37.cell? ⟨gb184, 1, none⟩ = some (.slice Ao35 t177.length co35) := (blk_cell BK184.out 1).trans rfl
                    have hcz45_2 : w37.cell? ⟨gb184, 2, none⟩ = some (.slice Ao36 t180.length co36) := (blk_cell BK184.out 2).trans rfl
                    have hfz45_0 := blk_frozen BK184.out 0
                    have hfz45_1 := blk_frozen BK184.out 1
                    have hfz45_2 := blk_frozen BK184.out 2
                    go_wp2_with (first | (go_at_call 20; (with_reducible refine (network_Idle.calls t176 _ _ t177 _ _ t180 true _ ?side1 ?side2 ?side3 ?side4 A39.out).mono ?_); (case side1 => repeat (first | exact (Kd.V_reads' HO179.out).2.2 | (with_reducible refine Kd.C_alloc ?_ _) | (with_reducible refine Kd.C_drewN ?_ _) | (with_reducible refine Kd.C_drew ?_))); (case side2 => exact (Kd.V_reads' HO179.out).2.1); (case side3 => repeat (first | exact (Kd.V_reads' HO182.out).2.2 | (with_reducible refine Kd.C_alloc ?_ _) | (with_reducible refine Kd.C_drewN ?_ _) | (with_reducible refine Kd.C_drew ?_))); (case side4 => exact (Kd.V_reads' HO182.out).2.1); rintro e w46 ⟨rfl, hb⟩; have n0_ := Aside0.mk (Kd.R_below (by (with_reducible repeat (first | apply Kd.R_alloc | apply Kd.R_drewN | apply Kd.R_drew)); exact HO159.out) hb); have n1_ := Aside0.mk (Kd.V_below (by (with_reducible repeat (first | apply Kd.V_alloc | apply Kd.V_drewN | apply Kd.V_drew)); exact HO163.out) hb); have n2_ := Aside0.mk (Kd.R_below (by (with_reducible repeat (first | apply Kd.R_alloc | apply Kd.R_drewN | apply Kd.R_drew)); exact HO166.out) hb); have n3_ := Aside0.mk (Kd.S_below (by (with_reducible repeat (first | apply Kd.S_alloc | apply Kd.S_drewN | apply Kd.S_drew)); exact HO175.out) hb); have n4_ := Aside0.mk (Kd.V_below (by (with_reducible repeat (first | apply Kd.V_alloc | apply Kd.V_drewN | apply Kd.V_drew)); exact HO179.out) hb); have n5_ := Aside0.mk (Kd.V_below (by (with_reducible repeat (first | apply Kd.V_alloc | apply Kd.V_drewN | apply Kd.V_drew)); exact HO182.out) hb); have n6_ := Aside0.mk (Kd.R_below (by (with_reducible repeat (first | apply Kd.R_alloc | apply Kd.R_drewN | apply Kd.R_drew)); exact HO187.out) hb); have n7_ := Aside0.mk (blk_below (g := gb155) (o := .cells #[.int .i64 a2_0, .int .i64 a2_1, .string a2_2] 27 (0, 0)) (by (with_reducible repeat (first | refine blk_drewN ?_ _ | refine blk_drew ?_ | refine blk_alloc ?_ _)); exact BK155.out) hb); have n8_ := Aside0.mk (blk_below (g := gb168) (o := .cells #[.int .i64 t160, .slice Ao26 t161.length co26, .slice Ao27 t164.length co27] 25 (0, 0)) (by (with_reducible repeat (first | refine blk_drewN ?_ _ | refine blk_drew ?_ | refine blk_alloc ?_ _)); exact BK168.out) hb); have n9_ := Aside0.mk (blk_below (g := gb184) (o := .cells #[.int .i64 t176, .slice Ao35 t177.length co35, .slice Ao36 t180.length co36] 25 (0, 0)) (by (with_reducible repeat (first | refine blk_drewN ?_ _ | refine blk_drew ?_ | refine blk_alloc ?_ _)); exact BK184.out) hb); have n10_ := Aside0.mk (below_step (by repeat (first | (with_reducible first | exact HB.out | apply below_alloc | apply pw_below_drewN | apply below_drew1 | refine below_set ?_ GE155.out | refine below_set ?_ GE168.out | refine below_set ?_ GE184.out) | exact HB.out)) hb); clear HO159; clear HO163; clear HO166; clear HO175; clear HO179; clear HO182; clear HO187; clear BK155; clear BK168; clear BK184; clear HB; have HO159 := n0_; have HO163 := n1_; have HO166 := n2_; have HO175 := n3_; have HO179 := n4_; have HO182 := n5_; have HO187 := n6_; have BK155 := n7_; have BK168 := n8_; have BK184 := n9_; have HB := n10_; clear n0_ n1_ n2_ n3_ n4_ n5_ n6_ n7_ n8_ n9_ n10_; (try clear hb); (try clear hb2); (try clear hk); (try clear hi); have hcz47_0 : w46.cell? ⟨gb184, 0, none⟩ = some (.int .i64 t176) := (blk_cell BK184.out 0).trans rfl; have hcz47_1 : w46.cell? ⟨gb184, 1, none⟩ = some (.slice Ao35 t177.length co35) := (blk_cell BK184.out 1).trans rfl; have hcz47_2 : w46.cell? ⟨gb184, 2, none⟩ = some (.slice Ao36 t180.length co36) := (blk_cell BK184.out 2).trans rfl; have hfz47_0 := blk_frozen BK184.out 0; have hfz47_1 := blk_frozen BK184.out 1; have hfz47_2 := blk_frozen BK184.out 2; have hnb48 := NB168_155.out; have hnc48 := NB155_168.out; have hcz49_0 : w46.cell? ⟨gb168, 0, none⟩ = some (.int .i64 t160) := (blk_cell BK168.out 0).trans rfl; have hcz49_1 : w46.cell? ⟨gb168, 1, none⟩ = some (.slice Ao26 t161.length co26) := (blk_cell BK168.out 1).trans rfl; have hcz49_2 : w46.cell? ⟨gb168, 2, none⟩ = some (.slice Ao27 t164.length co27) := (blk_cell BK168.out 2).trans rfl; have hfz49_0 := blk_frozen BK168.out 0; have hfz49_1 := blk_frozen BK168.out 1; have hfz49_2 := blk_frozen BK168.out 2; obtain ⟨Ao50, co50, eo50⟩ := Kd.R_slice HO187.out; subst eo50))
                    go_meet
                    case rel => exact ⟨_, (decide ((t185.length : Int) > 2)), (by first | rfl | (simp; done) | (simp [*]; done)), H', ⟨by have := HJ3.out; first | omega | exact Nat.le_refl _⟩, ⟨by (with_reducible repeat (first | apply Kd.S_alloc | apply Kd.S_drewN | apply Kd.S_drew)); exact Kd.S_mono HO175.out (fun _ hk => hk.2)⟩, ⟨by (with_reducible repeat (first | apply Kd.R_alloc | apply Kd.R_drewN | apply Kd.R_drew)); exact Kd.R_mono HO187.out (fun _ hk => trivial)⟩, ⟨by (with_reducible repeat (first | apply Kd.V_alloc | apply Kd.V_drewN | apply Kd.V_drew)); exact Kd.V_mono HO163.out (fun _ hk => ⟨hk.1.1.2, ⟨hk.2, ⟨hk.1.1.1.1, ⟨hk.1.1.1.2.1, ⟨hk.1.1.1.2.2, hk.1.2⟩⟩⟩⟩⟩)⟩, ⟨by (with_reducible repeat (first | apply Kd.R_alloc | apply Kd.R_drewN | apply Kd.R_drew)); exact HO166.out⟩, ⟨by (with_reducible repeat (first | apply Kd.V_alloc | apply Kd.V_drewN | apply Kd.V_drew)); exact Kd.V_mono HO179.out (fun _ hk => ⟨hk.1.1.1, ⟨hk.2, ⟨hk.1.1.2.1, ⟨hk.1.1.2.2, hk.1.2⟩⟩⟩⟩)⟩, ⟨by (with_reducible repeat (first | apply Kd.V_alloc | apply Kd.V_drewN | apply Kd.V_drew)); exact Kd.V_mono HO182.out (fun _ hk => ⟨hk.1.1.1, ⟨hk.2, ⟨hk.1.1.2.1, ⟨hk.1.1.2.2, hk.1.2⟩⟩⟩⟩)⟩, ⟨by (with_reducible repeat (first | refine blk_drewN ?_ _ | refine blk_drew ?_ | refine blk_alloc ?_ _)); exact BK155.out⟩, ⟨by (with_reducible repeat (first | refine blk_drewN ?_ _ | refine blk_drew ?_ | refine blk_alloc ?_ _)); exact BK168.out⟩, ⟨by (with_reducible repeat (first | refine blk_drewN ?_ _ | refine blk_drew ?_ | refine blk_alloc ?_ _)); exact BK184.out⟩, ⟨by repeat (first | (with_reducible first | exact HB.out | apply below_alloc | apply pw_below_drewN | apply below_drew1 | refine below_set ?_ GE155.out | refine below_set ?_ GE168.out | refine below_set ?_ GE184.out) | exact HB.out)⟩⟩
                  · rw [if_neg c42] at H
                    have c42b0 : ((t161.length : Int) == 0) = false := beq_eq_false_iff_ne.mpr c42
                    have c42b1 : ((t161.length : Int) != 0) = true := bne_iff_ne.mpr c42
                    have c42b2 : ¬ (t161 = []) := fun h_ => c42 (by rw [h_]; rfl)
                    have H' := Aside0.mk H
                    clear H
                    have hnb51 := NB184_155.out
                    have hnc51 := NB155_184.out
                    have hnb52 := NB184_168.out
                    have hnc52 := NB168_184.out
                    have hcz53_0 : w37.cell? ⟨gb184, 0, none⟩ = some (.int .i64 t176) := (blk_cell BK184.out 0).trans rfl
                    have hcz53_1 : w37.cell? ⟨gb184, 1, none⟩ = some (.slice Ao35 t177.length co35) := (blk_cell BK184.out 1).trans rfl
                    have hcz53_2 : w37.cell? ⟨gb184, 2, none⟩ = some (.slice Ao36 t180.length co36) := (blk_cell BK184.out 2).trans rfl
                    have hfz53_0 := blk_frozen BK184.out 0
                    have hfz53_1 := blk_frozen BK184.out 1
                    have hfz53_2 := blk_frozen BK184.out 2
                    go_wp2_with (first | (go_at_call 20; (with_reducible refine (network_Idle.calls t176 _ _ t177 _ _ t180 true _ ?side1 ?side2 ?side3 ?side4 A39.out).mono ?_); (case side1 => repeat (first | exact (Kd.V_reads' HO179.out).2.2 | (with_reducible refine Kd.C_alloc ?_ _) | (with_reducible refine Kd.C_drewN ?_ _) | (with_reducible refine Kd.C_drew ?_))); (case side2 => exact (Kd.V_reads' HO179.out).2.1); (case side3 => repeat (first | exact (Kd.V_reads' HO182.out).2.2 | (with_reducible refine Kd.C_alloc ?_ _) | (with_reducible refine Kd.C_drewN ?_ _) | (with_reducible refine Kd.C_drew ?_))); (case side4 => exact (Kd.V_reads' HO182.out).2.1); rintro e w54 ⟨rfl, hb⟩; have n0_ := Aside0.mk (Kd.R_below (by (with_reducible repeat (first | apply Kd.R_alloc | apply Kd.R_drewN | apply Kd.R_drew)); exact HO159.out) hb); have n1_ := Aside0.mk (Kd.V_below (by (with_reducible repeat (first | apply Kd.V_alloc | apply Kd.V_drewN | apply Kd.V_drew)); exact HO163.out) hb); have n2_ := Aside0.mk (Kd.R_below (by (with_reducible repeat (first | apply Kd.R_alloc | apply Kd.R_drewN | apply Kd.R_drew)); exact HO166.out) hb); have n3_ := Aside0.mk (Kd.S_below (by (with_reducible repeat (first | apply Kd.S_alloc | apply Kd.S_drewN | apply Kd.S_drew)); exact HO175.out) hb); have n4_ := Aside0.mk (Kd.V_below (by (with_reducible repeat (first | apply Kd.V_alloc | apply Kd.V_drewN | apply Kd.V_drew)); exact HO179.out) hb); have n5_ := Aside0.mk (Kd.V_below (by (with_reducible repeat (first | apply Kd.V_alloc | apply Kd.V_drewN | apply Kd.V_drew)); exact HO182.out) hb); have n6_ := Aside0.mk (Kd.R_below (by (with_reducible repeat (first | apply Kd.R_alloc | apply Kd.R_drewN | apply Kd.R_drew)); exact HO187.out) hb); have n7_ := Aside0.mk (blk_below (g := gb155) (o := .cells #[.int .i64 a2_0, .int .i64 a2_1, .string a2_2] 27 (0, 0)) (by (with_reducible repeat (first | refine blk_drewN ?_ _ | refine blk_drew ?_ | refine blk_alloc ?_ _)); exact BK155.out) hb); have n8_ := Aside0.mk (blk_below (g := gb168) (o := .cells #[.int .i64 t160, .slice Ao26 t161.length co26, .slice Ao27 t164.length co27] 25 (0, 0)) (by (with_reducible repeat (first | refine blk_drewN ?_ _ | refine blk_drew ?_ | refine blk_alloc ?_ _)); exact BK168.out) hb); have n9_ := Aside0.mk (blk_below (g := gb184) (o := .cells #[.int .i64 t176, .slice Ao35 t177.length co35, .slice Ao36 t180.length co36] 25 (0, 0)) (by (with_reducible repeat (first | refine blk_drewN ?_ _ | refine blk_drew ?_ | refine blk_alloc ?_ _)); exact BK184.out) hb); have n10_ := Aside0.mk (below_step (by repeat (first | (with_reducible first | exact HB.out | apply below_alloc | apply pw_below_drewN | apply below_drew1 | refine below_set ?_ GE155.out | refine below_set ?_ GE168.out | refine below_set ?_ GE184.out) | exact HB.out)) hb); clear HO159; clear HO163; clear HO166; clear HO175; clear HO179; clear HO182; clear HO187; clear BK155; clear BK168; clear BK184; clear HB; have HO159 := n0_; have HO163 := n1_; have HO166 := n2_; have HO175 := n3_; have HO179 := n4_; have HO182 := n5_; have HO187 := n6_; have BK155 := n7_; have BK168 := n8_; have BK184 := n9_; have HB := n10_; clear n0_ n1_ n2_ n3_ n4_ n5_ n6_ n7_ n8_ n9_ n10_; (try clear hb); (try clear hb2); (try clear hk); (try clear hi); have hcz55_0 : w54.cell? ⟨gb184, 0, none⟩ = some (.int .i64 t176) := (blk_cell BK184.out 0).trans rfl; have hcz55_1 : w54.cell? ⟨gb184, 1, none⟩ = some (.slice Ao35 t177.length co35) := (blk_cell BK184.out 1).trans rfl; have hcz55_2 : w54.cell? ⟨gb184, 2, none⟩ = some (.slice Ao36 t180.length co36) := (blk_cell BK184.out 2).trans rfl; have hfz55_0 := blk_frozen BK184.out 0; have hfz55_1 := blk_frozen BK184.out 1; have hfz55_2 := blk_frozen BK184.out 2; have hnb56 := NB168_155.out; have hnc56 := NB155_168.out; have hcz57_0 : w54.cell? ⟨gb168, 0, none⟩ = some (.int .i64 t160) := (blk_cell BK168.out 0).trans rfl; have hcz57_1 : w54.cell? ⟨gb168, 1, none⟩ = some (.slice Ao26 t161.length co26) := (blk_cell BK168.out 1).trans rfl; have hcz57_2 : w54.cell? ⟨gb168, 2, none⟩ = some (.slice Ao27 t164.length co27) := (blk_cell BK168.out 2).trans rfl; have hfz57_0 := blk_frozen BK168.out 0; have hfz57_1 := blk_frozen BK168.out 1; have hfz57_2 := blk_frozen BK168.out 2))
                    go_meet
                    case rel => exact ⟨_, (true), (by first | rfl | (simp; done) | (simp [*]; done)), H', ⟨by have := HJ3.out; first | omega | exact Nat.le_refl _⟩, ⟨by (with_reducible repeat (first | apply Kd.S_alloc | apply Kd.S_drewN | apply Kd.S_drew)); exact Kd.S_mono HO175.out (fun _ hk => hk.2)⟩, ⟨by (with_reducible repeat (first | apply Kd.R_alloc | apply Kd.R_drewN | apply Kd.R_drew)); exact Kd.R_mono HO187.out (fun _ hk => trivial)⟩, ⟨by (with_reducible repeat (first | apply Kd.V_alloc | apply Kd.V_drewN | apply Kd.V_drew)); exact Kd.V_mono HO163.out (fun _ hk => ⟨hk.1.1.2, ⟨hk.2, ⟨hk.1.1.1.1, ⟨hk.1.1.1.2.1, ⟨hk.1.1.1.2.2, hk.1.2⟩⟩⟩⟩⟩)⟩, ⟨by (with_reducible repeat (first | apply Kd.R_alloc | apply Kd.R_drewN | apply Kd.R_drew)); exact HO166.out⟩, ⟨by (with_reducible repeat (first | apply Kd.V_alloc | apply Kd.V_drewN | apply Kd.V_drew)); exact Kd.V_mono HO179.out (fun _ hk => ⟨hk.1.1.1, ⟨hk.2, ⟨hk.1.1.2.1, ⟨hk.1.1.2.2, hk.1.2⟩⟩⟩⟩)⟩, ⟨by (with_reducible repeat (first | apply Kd.V_alloc | apply Kd.V_drewN | apply Kd.V_drew)); exact Kd.V_mono HO182.out (fun _ hk => ⟨hk.1.1.1, ⟨hk.2, ⟨hk.1.1.2.1, ⟨hk.1.1.2.2, hk.1.2⟩⟩⟩⟩)⟩, ⟨by (with_reducible repeat (first | refine blk_drewN ?_ _ | refine blk_drew ?_ | refine blk_alloc ?_ _)); exact BK155.out⟩, ⟨by (with_reducible repeat (first | refine blk_drewN ?_ _ | refine blk_drew ?_ | refine blk_alloc ?_ _)); exact BK168.out⟩, ⟨by (with_reducible repeat (first | refine blk_drewN ?_ _ | refine blk_drew ?_ | refine blk_alloc ?_ _)); exact BK184.out⟩, ⟨by repeat (first | (with_reducible first | exact HB.out | apply below_alloc | apply pw_below_drewN | apply below_drew1 | refine below_set ?_ GE155.out | refine below_set ?_ GE168.out | refine below_set ?_ GE184.out) | exact HB.out)⟩⟩
                · rw [if_neg c41] at H
                  have c41b0 : (t176 == (wrap64 (a0 + 8))) = false := beq_eq_false_iff_ne.mpr c41
                  have c41b1 : (t176 != (wrap64 (a0 + 8))) = true := bne_iff_ne.mpr c41
                  (first | rw [c41b0] | (simp only [i64_w, i32_w]; rw [c41b0]) | rw [c41b1] | (simp only [i64_w, i32_w]; rw [c41b1]) | skip)
                  have H' := Aside0.mk H
                  clear H
                  have hnb58 := NB184_155.out
                  have hnc58 := NB155_184.out
                  have hnb59 := NB184_168.out
                  have hnc59 := NB168_184.out
                  have hcz60_0 : w37.cell? ⟨gb184, 0, none⟩ = some (.int .i64 t176) := (blk_cell BK184.out 0).trans rfl
                  have hcz60_1 : w37.cell? ⟨gb184, 1, none⟩ = some (.slice Ao35 t177.length co35) := (blk_cell BK184.out 1).trans rfl
                  have hcz60_2 : w37.cell? ⟨gb184, 2, none⟩ = some (.slice Ao36 t180.length co36) := (blk_cell BK184.out 2).trans rfl
                  have hfz60_0 := blk_frozen BK184.out 0
                  have hfz60_1 := blk_frozen BK184.out 1
                  have hfz60_2 := blk_frozen BK184.out 2
                  go_wp2_with (first | (go_at_call 20; (with_reducible refine (network_Idle.calls t176 _ _ t177 _ _ t180 true _ ?side1 ?side2 ?side3 ?side4 A39.out).mono ?_); (case side1 => repeat (first | exact (Kd.V_reads' HO179.out).2.2 | (with_reducible refine Kd.C_alloc ?_ _) | (with_reducible refine Kd.C_drewN ?_ _) | (with_reducible refine Kd.C_drew ?_))); (case side2 => exact (Kd.V_reads' HO179.out).2.1); (case side3 => repeat (first | exact (Kd.V_reads' HO182.out).2.2 | (with_reducible refine Kd.C_alloc ?_ _) | (with_reducible refine Kd.C_drewN ?_ _) | (with_reducible refine Kd.C_drew ?_))); (case side4 => exact (Kd.V_reads' HO182.out).2.1); rintro e w61 ⟨rfl, hb⟩; have n0_ := Aside0.mk (Kd.R_below (by (with_reducible repeat (first | apply Kd.R_alloc | apply Kd.R_drewN | apply Kd.R_drew)); exact HO159.out) hb); have n1_ := Aside0.mk (Kd.V_below (by (with_reducible repeat (first | apply Kd.V_alloc | apply Kd.V_drewN | apply Kd.V_drew)); exact HO163.out) hb); have n2_ := Aside0.mk (Kd.R_below (by (with_reducible repeat (first | apply Kd.R_alloc | apply Kd.R_drewN | apply Kd.R_drew)); exact HO166.out) hb); have n3_ := Aside0.mk (Kd.S_below (by (with_reducible repeat (first | apply Kd.S_alloc | apply Kd.S_drewN | apply Kd.S_drew)); exact HO175.out) hb); have n4_ := Aside0.mk (Kd.V_below (by (with_reducible repeat (first | apply Kd.V_alloc | apply Kd.V_drewN | apply Kd.V_drew)); exact HO179.out) hb); have n5_ := Aside0.mk (Kd.V_below (by (with_reducible repeat (first | apply Kd.V_alloc | apply Kd.V_drewN | apply Kd.V_drew)); exact HO182.out) hb); have n6_ := Aside0.mk (Kd.R_below (by (with_reducible repeat (first | apply Kd.R_alloc | apply Kd.R_drewN | apply Kd.R_drew)); exact HO187.out) hb); have n7_ := Aside0.mk (blk_below (g := gb155) (o := .cells #[.int .i64 a2_0, .int .i64 a2_1, .string a2_2] 27 (0, 0)) (by (with_reducible repeat (first | refine blk_drewN ?_ _ | refine blk_drew ?_ | refine blk_alloc ?_ _)); exact BK155.out) hb); have n8_ := Aside0.mk (blk_below (g := gb168) (o := .cells #[.int .i64 t160, .slice Ao26 t161.length co26, .slice Ao27 t164.length co27] 25 (0, 0)) (by (with_reducible repeat (first | refine blk_drewN ?_ _ | refine blk_drew ?_ | refine blk_alloc ?_ _)); exact BK168.out) hb); have n9_ := Aside0.mk (blk_below (g := gb184) (o := .cells #[.int .i64 t176, .slice Ao35 t177.length co35, .slice Ao36 t180.length co36] 25 (0, 0)) (by (with_reducible repeat (first | refine blk_drewN ?_ _ | refine blk_drew ?_ | refine blk_alloc ?_ _)); exact BK184.out) hb); have n10_ := Aside0.mk (below_step (by repeat (first | (with_reducible first | exact HB.out | apply below_alloc | apply pw_below_drewN | apply below_drew1 | refine below_set ?_ GE155.out | refine below_set ?_ GE168.out | refine below_set ?_ GE184.out) | exact HB.out)) hb); clear HO159; clear HO163; clear HO166; clear HO175; clear HO179; clear HO182; clear HO187; clear BK155; clear BK168; clear BK184; clear HB; have HO159 := n0_; have HO163 := n1_; have HO166 := n2_; have HO175 := n3_; have HO179 := n4_; have HO182 := n5_; have HO187 := n6_; have BK155 := n7_; have BK168 := n8_; have BK184 := n9_; have HB := n10_; clear n0_ n1_ n2_ n3_ n4_ n5_ n6_ n7_ n8_ n9_ n10_; (try clear hb); (try clear hb2); (try clear hk); (try clear hi); have hcz62_0 : w61.cell? ⟨gb184, 0, none⟩ = some (.int .i64 t176) := (blk_cell BK184.out 0).trans rfl; have hcz62_1 : w61.cell? ⟨gb184, 1, none⟩ = some (.slice Ao35 t177.length co35) := (blk_cell BK184.out 1).trans rfl; have hcz62_2 : w61.cell? ⟨gb184, 2, none⟩ = some (.slice Ao36 t180.length co36) := (blk_cell BK184.out 2).trans rfl; have hfz62_0 := blk_frozen BK184.out 0; have hfz62_1 := blk_frozen BK184.out 1; have hfz62_2 := blk_frozen BK184.out 2))
                  go_meet
                  case rel => exact ⟨_, (true), (by first | rfl | (simp; done) | (simp [*]; done)), H', ⟨by have := HJ3.out; first | omega | exact Nat.le_refl _⟩, ⟨by (with_reducible repeat (first | apply Kd.S_alloc | apply Kd.S_drewN | apply Kd.S_drew)); exact Kd.S_mono HO175.out (fun _ hk => hk.2)⟩, ⟨by (with_reducible repeat (first | apply Kd.R_alloc | apply Kd.R_drewN | apply Kd.R_drew)); exact Kd.R_mono HO187.out (fun _ hk => trivial)⟩, ⟨by (with_reducible repeat (first | apply Kd.V_alloc | apply Kd.V_drewN | apply Kd.V_drew)); exact Kd.V_mono HO163.out (fun _ hk => ⟨hk.1.1.2, ⟨hk.2, ⟨hk.1.1.1.1, ⟨hk.1.1.1.2.1, ⟨hk.1.1.1.2.2, hk.1.2⟩⟩⟩⟩⟩)⟩, ⟨by (with_reducible repeat (first | apply Kd.R_alloc | apply Kd.R_drewN | apply Kd.R_drew)); exact HO166.out⟩, ⟨by (with_reducible repeat (first | apply Kd.V_alloc | apply Kd.V_drewN | apply Kd.V_drew)); exact Kd.V_mono HO179.out (fun _ hk => ⟨hk.1.1.1, ⟨hk.2, ⟨hk.1.1.2.1, ⟨hk.1.1.2.2, hk.1.2⟩⟩⟩⟩)⟩, ⟨by (with_reducible repeat (first | apply Kd.V_alloc | apply Kd.V_drewN | apply Kd.V_drew)); exact Kd.V_mono HO182.out (fun _ hk => ⟨hk.1.1.1, ⟨hk.2, ⟨hk.1.1.2.1, ⟨hk.1.1.2.2, hk.1.2⟩⟩⟩⟩)⟩, ⟨by (with_reducible repeat (first | refine blk_drewN ?_ _ | refine blk_drew ?_ | refine blk_alloc ?_ _)); exact BK155.out⟩, ⟨by (with_reducible repeat (first | refine blk_drewN ?_ _ | refine blk_drew ?_ | refine blk_alloc ?_ _)); exact BK168.out⟩, ⟨by (with_reducible repeat (first | refine blk_drewN ?_ _ | refine blk_drew ?_ | refine blk_alloc ?_ _)); exact BK184.out⟩, ⟨by repeat (first | (with_reducible first | exact HB.out | apply below_alloc | apply pw_below_drewN | apply below_drew1 | refine below_set ?_ GE155.out | refine below_set ?_ GE168.out | refine below_set ?_ GE184.out) | exact HB.out)⟩⟩
              · replace c40 := Bool.eq_false_iff.mpr c40
                subst c40
                have H1 : (lookoutlaw50_NetworkDelivers.j1 kj3 t173 t185 true a2_0 a2_1 a2_2) = some r := by rw [if_neg (show ¬ (false = true) by decide)] at H; exact H
                clear H
                have H := H1
                clear H1
                have H' := Aside0.mk H
                clear H
                have hnb63 := NB184_155.out
                have hnc63 := NB155_184.out
                have hnb64 := NB184_168.out
                have hnc64 := NB168_184.out
                have hcz65_0 : w37.cell? ⟨gb184, 0, none⟩ = some (.int .i64 t176) := (blk_cell BK184.out 0).trans rfl
                have hcz65_1 : w37.cell? ⟨gb184, 1, none⟩ = some (.slice Ao35 t177.length co35) := (blk_cell BK184.out 1).trans rfl
                have hcz65_2 : w37.cell? ⟨gb184, 2, none⟩ = some (.slice Ao36 t180.length co36) := (blk_cell BK184.out 2).trans rfl
                have hfz65_0 := blk_frozen BK184.out 0
                have hfz65_1 := blk_frozen BK184.out 1
                have hfz65_2 := blk_frozen BK184.out 2
                go_wp2_with (first | (go_at_call 20; (with_reducible refine (network_Idle.calls t176 _ _ t177 _ _ t180 false _ ?side1 ?side2 ?side3 ?side4 A39.out).mono ?_); (case side1 => repeat (first | exact (Kd.V_reads' HO179.out).2.2 | (with_reducible refine Kd.C_alloc ?_ _) | (with_reducible refine Kd.C_drewN ?_ _) | (with_reducible refine Kd.C_drew ?_))); (case side2 => exact (Kd.V_reads' HO179.out).2.1); (case side3 => repeat (first | exact (Kd.V_reads' HO182.out).2.2 | (with_reducible refine Kd.C_alloc ?_ _) | (with_reducible refine Kd.C_drewN ?_ _) | (with_reducible refine Kd.C_drew ?_))); (case side4 => exact (Kd.V_reads' HO182.out).2.1); rintro e w66 ⟨rfl, hb⟩; have n0_ := Aside0.mk (Kd.R_below (by (with_reducible repeat (first | apply Kd.R_alloc | apply Kd.R_drewN | apply Kd.R_drew)); exact HO159.out) hb); have n1_ := Aside0.mk (Kd.V_below (by (with_reducible repeat (first | apply Kd.V_alloc | apply Kd.V_drewN | apply Kd.V_drew)); exact HO163.out) hb); have n2_ := Aside0.mk (Kd.R_below (by (with_reducible repeat (first | apply Kd.R_alloc | apply Kd.R_drewN | apply Kd.R_drew)); exact HO166.out) hb); have n3_ := Aside0.mk (Kd.S_below (by (with_reducible repeat (first | apply Kd.S_alloc | apply Kd.S_drewN | apply Kd.S_drew)); exact HO175.out) hb); have n4_ := Aside0.mk (Kd.V_below (by (with_reducible repeat (first | apply Kd.V_alloc | apply Kd.V_drewN | apply Kd.V_drew)); exact HO179.out) hb); have n5_ := Aside0.mk (Kd.V_below (by (with_reducible repeat (first | apply Kd.V_alloc | apply Kd.V_drewN | apply Kd.V_drew)); exact HO182.out) hb); have n6_ := Aside0.mk (Kd.R_below (by (with_reducible repeat (first | apply Kd.R_alloc | apply Kd.R_drewN | apply Kd.R_drew)); exact HO187.out) hb); have n7_ := Aside0.mk (blk_below (g := gb155) (o := .cells #[.int .i64 a2_0, .int .i64 a2_1, .string a2_2] 27 (0, 0)) (by (with_reducible repeat (first | refine blk_drewN ?_ _ | refine blk_drew ?_ | refine blk_alloc ?_ _)); exact BK155.out) hb); have n8_ := Aside0.mk (blk_below (g := gb168) (o := .cells #[.int .i64 t160, .slice Ao26 t161.length co26, .slice Ao27 t164.length co27] 25 (0, 0)) (by (with_reducible repeat (first | refine blk_drewN ?_ _ | refine blk_drew ?_ | refine blk_alloc ?_ _)); exact BK168.out) hb); have n9_ := Aside0.mk (blk_below (g := gb184) (o := .cells #[.int .i64 t176, .slice Ao35 t177.length co35, .slice Ao36 t180.length co36] 25 (0, 0)) (by (with_reducible repeat (first | refine blk_drewN ?_ _ | refine blk_drew ?_ | refine blk_alloc ?_ _)); exact BK184.out) hb); have n10_ := Aside0.mk (below_step (by repeat (first | (with_reducible first | exact HB.out | apply below_alloc | apply pw_below_drewN | apply below_drew1 | refine below_set ?_ GE155.out | refine below_set ?_ GE168.out | refine below_set ?_ GE184.out) | exact HB.out)) hb); clear HO159; clear HO163; clear HO166; clear HO175; clear HO179; clear HO182; clear HO187; clear BK155; clear BK168; clear BK184; clear HB; have HO159 := n0_; have HO163 := n1_; have HO166 := n2_; have HO175 := n3_; have HO179 := n4_; have HO182 := n5_; have HO187 := n6_; have BK155 := n7_; have BK168 := n8_; have BK184 := n9_; have HB := n10_; clear n0_ n1_ n2_ n3_ n4_ n5_ n6_ n7_ n8_ n9_ n10_; (try clear hb); (try clear hb2); (try clear hk); (try clear hi)))
                go_meet
                case rel => exact ⟨_, (true), (by first | rfl | (simp; done) | (simp [*]; done)), H', ⟨by have := HJ3.out; first | omega | exact Nat.le_refl _⟩, ⟨by (with_reducible repeat (first | apply Kd.S_alloc | apply Kd.S_drewN | apply Kd.S_drew)); exact Kd.S_mono HO175.out (fun _ hk => hk.2)⟩, ⟨by (with_reducible repeat (first | apply Kd.R_alloc | apply Kd.R_drewN | apply Kd.R_drew)); exact Kd.R_mono HO187.out (fun _ hk => trivial)⟩, ⟨by (with_reducible repeat (first | apply Kd.V_alloc | apply Kd.V_drewN | apply Kd.V_drew)); exact Kd.V_mono HO163.out (fun _ hk => ⟨hk.1.1.2, ⟨hk.2, ⟨hk.1.1.1.1, ⟨hk.1.1.1.2.1, ⟨hk.1.1.1.2.2, hk.1.2⟩⟩⟩⟩⟩)⟩, ⟨by (with_reducible repeat (first | apply Kd.R_alloc | apply Kd.R_drewN | apply Kd.R_drew)); exact HO166.out⟩, ⟨by (with_reducible repeat (first | apply Kd.V_alloc | apply Kd.V_drewN | apply Kd.V_drew)); exact Kd.V_mono HO179.out (fun _ hk => ⟨hk.1.1.1, ⟨hk.2, ⟨hk.1.1.2.1, ⟨hk.1.1.2.2, hk.1.2⟩⟩⟩⟩)⟩, ⟨by (with_reducible repeat (first | apply Kd.V_alloc | apply Kd.V_drewN | apply Kd.V_drew)); exact Kd.V_mono HO182.out (fun _ hk => ⟨hk.1.1.1, ⟨hk.2, ⟨hk.1.1.2.1, ⟨hk.1.1.2.2, hk.1.2⟩⟩⟩⟩)⟩, ⟨by (with_reducible repeat (first | refine blk_drewN ?_ _ | refine blk_drew ?_ | refine blk_alloc ?_ _)); exact BK155.out⟩, ⟨by (with_reducible repeat (first | refine blk_drewN ?_ _ | refine blk_drew ?_ | refine blk_alloc ?_ _)); exact BK168.out⟩, ⟨by (with_reducible repeat (first | refine blk_drewN ?_ _ | refine blk_drew ?_ | refine blk_alloc ?_ _)); exact BK184.out⟩, ⟨by repeat (first | (with_reducible first | exact HB.out | apply below_alloc | apply pw_below_drewN | apply below_drew1 | refine below_set ?_ GE155.out | refine below_set ?_ GE168.out | refine below_set ?_ GE184.out) | exact HB.out)⟩⟩
            · replace c38 := Bool.eq_false_iff.mpr c38
              subst c38
              have H1 : (lookoutlaw50_NetworkDelivers.j1 kj3 t173 t185 true a2_0 a2_1 a2_2) = some r := by rw [if_neg (show ¬ (false = true) by decide)] at H; exact H
              clear H
              have H := H1
              clear H1
              have H' := Aside0.mk H
              clear H
              go_wp2
              go_meet
              case rel => exact ⟨_, (true), (by first | rfl | (simp; done) | (simp [*]; done)), H', ⟨by have := HJ3.out; first | omega | exact Nat.le_refl _⟩, ⟨by (with_reducible repeat (first | apply Kd.S_alloc | apply Kd.S_drewN | apply Kd.S_drew)); exact Kd.S_mono HO175.out (fun _ hk => hk.2)⟩, ⟨by (with_reducible repeat (first | apply Kd.R_alloc | apply Kd.R_drewN | apply Kd.R_drew)); exact Kd.R_mono HO187.out (fun _ hk => trivial)⟩, ⟨by (with_reducible repeat (first | apply Kd.V_alloc | apply Kd.V_drewN | apply Kd.V_drew)); exact Kd.V_mono HO163.out (fun _ hk => ⟨hk.1.1.2, ⟨hk.2, ⟨hk.1.1.1.1, ⟨hk.1.1.1.2.1, ⟨hk.1.1.1.2.2, hk.1.2⟩⟩⟩⟩⟩)⟩, ⟨by (with_reducible repeat (first | apply Kd.R_alloc | apply Kd.R_drewN | apply Kd.R_drew)); exact HO166.out⟩, ⟨by (with_reducible repeat (first | apply Kd.V_alloc | apply Kd.V_drewN | apply Kd.V_drew)); exact Kd.V_mono HO179.out (fun _ hk => ⟨hk.1.1.1, ⟨hk.2, ⟨hk.1.1.2.1, ⟨hk.1.1.2.2, hk.1.2⟩⟩⟩⟩)⟩, ⟨by (with_reducible repeat (first | apply Kd.V_alloc | apply Kd.V_drewN | apply Kd.V_drew)); exact Kd.V_mono HO182.out (fun _ hk => ⟨hk.1.1.1, ⟨hk.2, ⟨hk.1.1.2.1, ⟨hk.1.1.2.2, hk.1.2⟩⟩⟩⟩)⟩, ⟨by (with_reducible repeat (first | refine blk_drewN ?_ _ | refine blk_drew ?_ | refine blk_alloc ?_ _)); exact BK155.out⟩, ⟨by (with_reducible repeat (first | refine blk_drewN ?_ _ | refine blk_drew ?_ | refine blk_alloc ?_ _)); exact BK168.out⟩, ⟨by (with_reducible repeat (first | refine blk_drewN ?_ _ | refine blk_drew ?_ | refine blk_alloc ?_ _)); exact BK184.out⟩, ⟨by repeat (first | (with_reducible first | exact HB.out | apply below_alloc | apply pw_below_drewN | apply below_drew1 | refine below_set ?_ GE155.out | refine below_set ?_ GE168.out | refine below_set ?_ GE184.out) | exact HB.out)⟩⟩
          case rest =>
            clear HC17
            try clear c1
            try clear c2
            try clear p2
            try clear c3
            try clear c4
            try clear c5
            try clear c6
            try clear c6b0
            try clear c6b1
            try clear p6
            try clear c7
            try clear c7b0
            try clear c8
            try clear c8b0
            try clear c10
            try clear c11
            try clear c12
            try clear c14
            try clear c14b0
            try clear c14b1
            try clear c18
            try clear c24
            try clear c25
            try clear c32
            try clear c33
            try clear c38
            try clear c40
            try clear c41
            try clear c41b0
            try clear c41b1
            try clear c42
            try clear c42b0
            try clear c42b1
            try clear c42b2
            try clear c43
            try clear c44
            try clear c48
            try clear c51
            try clear c52
            try clear c56
            try clear c58
            try clear c59
            try clear c63
            try clear c64
            try clear p64
            try clear hcz21_0
            try clear hcz21_1
            try clear hcz21_2
            try clear hcz25_0
            try clear hcz25_1
            try clear hcz25_2
            try clear hcz29_0
            try clear hcz29_1
            try clear hcz29_2
            try clear hcz34_0
            try clear hcz34_1
            try clear hcz34_2
            try clear hcz45_0
            try clear hcz45_1
            try clear hcz45_2
            try clear hcz47_0
            try clear hcz47_1
            try clear hcz47_2
            try clear hcz49_0
            try clear hcz49_1
            try clear hcz49_2
            try clear hcz53_0
            try clear hcz53_1
            try clear hcz53_2
            try clear hcz55_0
            try clear hcz55_1
            try clear hcz55_2
            try clear hcz57_0
            try clear hcz57_1
            try clear hcz57_2
            try clear hcz60_0
            try clear hcz60_1
            try clear hcz60_2
            try clear hcz62_0
            try clear hcz62_1
            try clear hcz62_2
            try clear hcz65_0
            try clear hcz65_1
            try clear hcz65_2
            try clear hcz9_0
            try clear hcz9_1
            try clear hcz9_2
            try clear hfz21_0
            try clear hfz21_1
            try clear hfz21_2
            try clear hfz25_0
            try clear hfz25_1
            try clear hfz25_2
            try clear hfz29_0
            try clear hfz29_1
            try clear hfz29_2
            try clear hfz34_0
            try clear hfz34_1
            try clear hfz34_2
            try clear hfz45_0
            try clear hfz45_1
            try clear hfz45_2
            try clear hfz47_0
            try clear hfz47_1
            try clear hfz47_2
            try clear hfz49_0
            try clear hfz49_1
            try clear hfz49_2
            try clear hfz53_0
            try clear hfz53_1
            try clear hfz53_2
            try clear hfz55_0
            try clear hfz55_1
            try clear hfz55_2
            try clear hfz57_0
            try clear hfz57_1
            try clear hfz57_2
            try clear hfz60_0
            try clear hfz60_1
            try clear hfz60_2
            try clear hfz62_0
            try clear hfz62_1
            try clear hfz62_2
            try clear hfz65_0
            try clear hfz65_1
            try clear hfz65_2
            try clear hfz9_0
            try clear hfz9_1
            try clear hfz9_2
            try clear p2
            obtain ⟨kq, x103_16, rfl, HA, HJ16, HO_9, HO_12, HO_169001, HO_169002, HO_185001, HO_185002, BK155, BK168, BK184, HB⟩ := hcut
            cases kq with
            | zero => exact absurd HA.out (by simp [lookoutlaw50_NetworkDelivers.j1])
            | succ kj16 =>
              have H := HA.out
              clear HA
              simp only [lookoutlaw50_NetworkDelivers.j1] at H
              by_cases c67 : x103_16 = true
              · subst c67
                have H1 : (none) = some r := by rw [if_pos rfl] at H; exact H
                clear H
                have H := H1
                clear H1
                exact absurd H (by simp)
              · replace c67 := Bool.eq_false_iff.mpr c67
                subst c67
                have H1 : (lookoutlaw50_NetworkDelivers.l0 kj16 t185 t173 (t173.length : Int) 0 a2_0 a2_1 a2_2) = some r := by rw [if_neg (show ¬ (false = true) by decide)] at H; exact H
                clear H
                have H := H1
                clear H1
                have H' := Aside0.mk H
                clear H
                obtain ⟨Ao68, co68, eo68⟩ := Kd.S_slice HO_9.out
                subst eo68
                go_wp2
                go_loopg [106] kj16 (fun kq v106 w' => ∃ (x106_3 : Int), v106 = .int .i64 x106_3 ∧ Aside0 (lookoutlaw50_NetworkDelivers.l0 kq t185 t173 (t173.length : Int) x106_3 a2_0 a2_1 a2_2 = some r) ∧ Aside0 (kq ≤ kj16) ∧ Aside0 (Kd.R (Kd.int .i64) 3 w' w.heap.size (fun _ => True) v186 t185) ∧ Aside0 (Kd.S (Kd.slice 27 k27) 38 w' w.heap.size (fun k_ => k_ ≠ gb155) (.slice Ao68 t173.length co68) t173) ∧ Aside0 (Kd.V (Kd.int .i64) 3 w' w.heap.size (fun k_ => some k_ ≠ (v186 : Value).ownBlock ∧ some k_ ≠ ((.slice Ao68 t173.length co68) : Value).ownBlock ∧ some k_ ≠ ((.slice Ao27 t164.length co27) : Value).ownBlock ∧ k_ ≠ gb155 ∧ k_ ≠ gb168 ∧ k_ ≠ gb184) (.slice Ao26 t161.length co26) t161) ∧ Aside0 (Kd.R k44 44 w' w.heap.size (fun _ => True) (.slice Ao27 t164.length co27) t164) ∧ Aside0 (Kd.V (Kd.int .i64) 3 w' w.heap.size (fun k_ => some k_ ≠ (v186 : Value).ownBlock ∧ some k_ ≠ ((.slice Ao68 t173.length co68) : Value).ownBlock ∧ k_ ≠ gb155 ∧ k_ ≠ gb168 ∧ k_ ≠ gb184) (.slice Ao35 t177.length co35) t177) ∧ Aside0 (Kd.V k44 44 w' w.heap.size (fun k_ => some k_ ≠ (v186 : Value).ownBlock ∧ some k_ ≠ ((.slice Ao68 t173.length co68) : Value).ownBlock ∧ k_ ≠ gb155 ∧ k_ ≠ gb168 ∧ k_ ≠ gb184) (.slice Ao36 t180.length co36) t180) ∧ Aside0 (w'.heap[gb155]? = some (.cells #[.int .i64 a2_0, .int .i64 a2_1, .string a2_2] 27 (0, 0))) ∧ Aside0 (w'.heap[gb168]? = some (.cells #[.int .i64 t160, (.slice Ao26 t161.length co26), (.slice Ao27 t164.length co27)] 25 (0, 0))) ∧ Aside0 (w'.heap[gb184]? = some (.cells #[.int .i64 t176, (.slice Ao35 t177.length co35), (.slice Ao36 t180.length co36)] 25 (0, 0))) ∧ Aside0 (Below w.heap.size w w'))
                case atStart => exact ⟨(0), (by first | rfl | (simp; done) | (simp [*]; done)), H', ⟨Nat.le_refl _⟩, ⟨by (with_reducible repeat (first | apply Kd.R_alloc | apply Kd.R_drewN | apply Kd.R_drew)); exact HO_12.out⟩, ⟨by (with_reducible repeat (first | apply Kd.S_alloc | apply Kd.S_drewN | apply Kd.S_drew)); exact HO_9.out⟩, ⟨by (with_reducible repeat (first | apply Kd.V_alloc | apply Kd.V_drewN | apply Kd.V_drew)); exact Kd.V_mono HO_169001.out (fun _ hk => ⟨hk.2.1, ⟨hk.1, ⟨hk.2.2.1, ⟨hk.2.2.2.1, ⟨hk.2.2.2.2.1, hk.2.2.2.2.2⟩⟩⟩⟩⟩)⟩, ⟨by (with_reducible repeat (first | apply Kd.R_alloc | apply Kd.R_drewN | apply Kd.R_drew)); exact HO_169002.out⟩, ⟨by (with_reducible repeat (first | apply Kd.V_alloc | apply Kd.V_drewN | apply Kd.V_drew)); exact Kd.V_mono HO_185001.out (fun _ hk => ⟨hk.2.1, ⟨hk.1, ⟨hk.2.2.1, ⟨hk.2.2.2.1, hk.2.2.2.2⟩⟩⟩⟩)⟩, ⟨by (with_reducible repeat (first | apply Kd.V_alloc | apply Kd.V_drewN | apply Kd.V_drew)); exact Kd.V_mono HO_185002.out (fun _ hk => ⟨hk.2.1, ⟨hk.1, ⟨hk.2.2.1, ⟨hk.2.2.2.1, hk.2.2.2.2⟩⟩⟩⟩)⟩, ⟨by (with_reducible repeat (first | refine blk_drewN ?_ _ | refine blk_drew ?_ | refine blk_alloc ?_ _)); exact BK155.out⟩, ⟨by (with_reducible repeat (first | refine blk_drewN ?_ _ | refine blk_drew ?_ | refine blk_alloc ?_ _)); exact BK168.out⟩, ⟨by (with_reducible repeat (first | refine blk_drewN ?_ _ | refine blk_drew ?_ | refine blk_alloc ?_ _)); exact BK184.out⟩, ⟨by repeat (first | (with_reducible first | exact HB.out | apply below_alloc | apply pw_below_drewN | apply below_drew1 | refine below_set ?_ GE155.out | refine below_set ?_ GE168.out | refine below_set ?_ GE184.out) | exact HB.out)⟩⟩
                case round =>
                  clear H'
                  try clear c1
                  try clear c2
                  try clear p2
                  try clear c3
                  try clear c4
                  try clear c5
                  try clear c6
                  try clear c6b0
                  try clear c6b1
                  try clear p6
                  try clear c7
                  try clear c7b0
                  try clear c8
                  try clear c8b0
                  try clear c10
                  try clear c11
                  try clear c12
                  try clear c14
                  try clear c14b0
                  try clear c14b1
                  try clear c18
                  try clear c24
                  try clear c25
                  try clear c32
                  try clear c33
                  try clear c38
                  try clear c40
                  try clear c41
                  try clear c41b0
                  try clear c41b1
                  try clear c42
                  try clear c42b0
                  try clear c42b1
                  try clear c42b2
                  try clear c43
                  try clear c44
                  try clear c48
                  try clear c51
                  try clear c52
                  try clear c56
                  try clear c58
                  try clear c59
                  try clear c63
                  try clear c64
                  try clear p64
                  try clear c67
                  try clear hcz21_0
                  try clear hcz21_1
                  try clear hcz21_2
                  try clear hcz25_0
                  try clear hcz25_1
                  try clear hcz25_2
                  try clear hcz29_0
                  try clear hcz29_1
                  try clear hcz29_2
                  try clear hcz34_0
                  try clear hcz34_1
                  try clear hcz34_2
                  try clear hcz45_0
                  try clear hcz45_1
                  try clear hcz45_2
                  try clear hcz47_0
                  try clear hcz47_1
                  try clear hcz47_2
                  try clear hcz49_0
                  try clear hcz49_1
                  try clear hcz49_2
                  try clear hcz53_0
                  try clear hcz53_1
                  try clear hcz53_2
                  try clear hcz55_0
                  try clear hcz55_1
                  try clear hcz55_2
                  try clear hcz57_0
                  try clear hcz57_1
                  try clear hcz57_2
                  try clear hcz60_0
                  try clear hcz60_1
                  try clear hcz60_2
                  try clear hcz62_0
                  try clear hcz62_1
                  try clear hcz62_2
                  try clear hcz65_0
                  try clear hcz65_1
                  try clear hcz65_2
                  try clear hcz9_0
                  try clear hcz9_1
                  try clear hcz9_2
                  try clear hfz21_0
                  try clear hfz21_1
                  try clear hfz21_2
                  try clear hfz25_0
                  try clear hfz25_1
                  try clear hfz25_2
                  try clear hfz29_0
                  try clear hfz29_1
                  try clear hfz29_2
                  try clear hfz34_0
                  try clear hfz34_1
                  try clear hfz34_2
                  try clear hfz45_0
                  try clear hfz45_1
                  try clear hfz45_2
                  try clear hfz47_0
                  try clear hfz47_1
                  try clear hfz47_2
                  try clear hfz49_0
                  try clear hfz49_1
                  try clear hfz49_2
                  try clear hfz53_0
                  try clear hfz53_1
                  try clear hfz53_2
                  try clear hfz55_0
                  try clear hfz55_1
                  try clear hfz55_2
                  try clear hfz57_0
                  try clear hfz57_1
                  try clear hfz57_2
                  try clear hfz60_0
                  try clear hfz60_1
                  try clear hfz60_2
                  try clear hfz62_0
                  try clear hfz62_1
                  try clear hfz62_2
                  try clear hfz65_0
                  try clear hfz65_1
                  try clear hfz65_2
                  try clear hfz9_0
                  try clear hfz9_1
                  try clear hfz9_2
                  try clear p2
                  try clear p6
                  try clear p64
                  obtain ⟨x106_3, rfl, HA, HK3, HO_12, HO_104, HO_169001, HO_169002, HO_185001, HO_185002, BK155, BK168, BK184, HB⟩ := hrel
                  cases gk with
                  | zero => exact absurd HA.out (by simp [lookoutlaw50_NetworkDelivers.l0])
                  | succ k3 =>
                    have H := HA.out
                    clear HA
                    simp only [lookoutlaw50_NetworkDelivers.l0] at H
                    by_cases c69 : x106_3 < (t173.length : Int)
                    · rw [if_pos c69] at H
                      have c69b0 : decide (x106_3 < (t173.length : Int)) = true := decide_eq_true c69
                      clear c69
                      by_cases c70 : 0 ≤ x106_3
                      · rw [if_pos c70] at H
                        have c70b0 : decide (0 ≤ x106_3) = true := decide_eq_true c70
                        clear c70
                        by_cases c71 : x106_3 < (t173.length : Int)
                        · rw [if_pos c71] at H
                          have c71b0 : decide (x106_3 < (t173.length : Int)) = true := decide_eq_true c71
                          clear c71
                          have H' := Aside0.mk H
                          clear H
                          have p190 : 0 ≤ (x106_3 : Int) := of_decide_eq_true (by first | (with_reducible assumption) | assumption)
                          have q190 : x106_3 < (t173.length : Int) := of_decide_eq_true (by first | (with_reducible assumption) | assumption)
                          obtain ⟨ad190, A190_0, c190_0, e190, hx190_0, hl190_0, hi190_0⟩ := at_L7 (Kd.S_reads' HO_104.out).2.2 x106_3 p190 q190
                          cases e190
                          obtain ⟨ce190, hce190, hMe190, hcc190⟩ := Kd.S_get HO_104.out [] x106_3 p190 (by first | exact q190 | exact of_decide_eq_true (by first | (with_reducible assumption) | assumption) | (have e_ := (Kd.S_reads' HO_104.out).1; omega))
                          obtain ⟨ve190_0, rfl, ge190_0⟩ := hMe190
                          have hv190_0 := hcc190 0 _ rfl
                          rw [Nat.add_zero, show ((Kd.slice 27 k27)).sz = 1 from rfl, Nat.mul_one] at hv190_0
                          replace hv190_0 := Option.some.inj (hv190_0.symm.trans hx190_0)
                          rw [hv190_0] at ge190_0
                          have HL190_0 := Aside0.mk (show Kd.R k27 27 _ _ _ _ (rd_L7 t173 x106_3) from ge190_0)
                          clear hv190_0 ge190_0
                          clear hcc190 hce190
                          have HR190_0 := Aside0.mk hi190_0
                          have HC190_0 := Aside0.mk hl190_0
                          clear hi190_0 hl190_0
                          replace p190 := eq_true p190
                          replace q190 := eq_true q190
                          obtain ⟨Ao72, co72, eo72⟩ := Kd.R_slice HO_12.out
                          subst eo72
                          go_wp2
                          go_loopg [15, 113] k3 (fun kq v15 v113 w' => ∃ (x15_4 : Int) (x113_4 : Int), v15 = .int .i64 x15_4 ∧ v113 = .int .i64 x113_4 ∧ Aside0 (lookoutlaw50_NetworkDelivers.l1 kq t185 x106_3 (rd_L7 t173 x106_3) x15_4 t173 (t173.length : Int) x106_3 t185 (t185.length : Int) x113_4 a2_0 a2_1 a2_2 = some r) ∧ Aside0 (kq ≤ k3) ∧ Aside0 (Kd.R (Kd.int .i64) 3 w' w.heap.size (fun _ => True) (.slice Ao72 t185.length co72) t185) ∧ Aside0 (Kd.S (Kd.slice 27 k27) 38 w' w.heap.size (fun k_ => k_ ≠ gb155) (.slice (some ad190) t173.length co68) t173) ∧ Aside0 (Kd.R (Kd.int .i64) 3 w' w.heap.size (fun _ => True) (.slice Ao72 t185.length co72) t185) ∧ Aside0 (Kd.V (Kd.int .i64) 3 w' w.heap.size (fun k_ => some k_ ≠ ((.slice Ao72 t185.length co72) : Value).ownBlock ∧ some k_ ≠ ((.slice (some ad190) t173.length co68) : Value).ownBlock ∧ some k_ ≠ ((.slice Ao72 t185.length co72) : Value).ownBlock ∧ some k_ ≠ ((.slice Ao27 t164.length co27) : Value).ownBlock ∧ k_ ≠ gb155 ∧ k_ ≠ gb168 ∧ k_ ≠ gb184) (.slice Ao26 t161.length co26) t161) ∧ Aside0 (Kd.R k44 44 w' w.heap.size (fun _ => True) (.slice Ao27 t164.length co27) t164) ∧ Aside0 (Kd.V (Kd.int .i64) 3 w' w.heap.size (fun k_ => some k_ ≠ ((.slice Ao72 t185.length co72) : Value).ownBlock ∧ some k_ ≠ ((.slice (some ad190) t173.length co68) : Value).ownBlock ∧ some k_ ≠ ((.slice Ao72 t185.length co72) : Value).ownBlock ∧ k_ ≠ gb155 ∧ k_ ≠ gb168 ∧ k_ ≠ gb184) (.slice Ao35 t177.length co35) t177) ∧ Aside0 (Kd.V k44 44 w' w.heap.size (fun k_ => some k_ ≠ ((.slice Ao72 t185.length co72) : Value).ownBlock ∧ some k_ ≠ ((.slice (some ad190) t173.length co68) : Value).ownBlock ∧ some k_ ≠ ((.slice Ao72 t185.length co72) : Value).ownBlock ∧ k_ ≠ gb155 ∧ k_ ≠ gb168 ∧ k_ ≠ gb184) (.slice Ao36 t180.length co36) t180) ∧ Aside0 (w'.heap[gb155]? = some (.cells #[.int .i64 a2_0, .int .i64 a2_1, .string a2_2] 27 (0, 0))) ∧ Aside0 (w'.heap[gb168]? = some (.cells #[.int .i64 t160, (.slice Ao26 t161.length co26), (.slice Ao27 t164.length co27)] 25 (0, 0))) ∧ Aside0 (w'.heap[gb184]? = some (.cells #[.int .i64 t176, (.slice Ao35 t177.length co35), (.slice Ao36 t180.length co36)] 25 (0, 0))) ∧ Aside0 (Kd.C k27 w' A190_0 (rd_L7 t173 x106_3).length (rd_L7 t173 x106_3)) ∧ Aside0 (Below w.heap.size w w'))
                          case atStart => exact ⟨(0), (0), (by first | rfl | (simp; done) | (simp [*]; done)), (by first | rfl | (simp; done) | (simp [*]; done)), H', ⟨Nat.le_refl _⟩, ⟨by (with_reducible repeat (first | apply Kd.R_alloc | apply Kd.R_drewN | apply Kd.R_drew)); exact HO_12.out⟩, ⟨by (with_reducible repeat (first | apply Kd.S_alloc | apply Kd.S_drewN | apply Kd.S_drew)); exact HO_104.out⟩, ⟨by (with_reducible repeat (first | apply Kd.R_alloc | apply Kd.R_drewN | apply Kd.R_drew)); exact HO_12.out⟩, ⟨by (with_reducible repeat (first | apply Kd.V_alloc | apply Kd.V_drewN | apply Kd.V_drew)); exact Kd.V_mono HO_169001.out (fun _ hk => ⟨hk.1, ⟨hk.2.1, ⟨hk.1, ⟨hk.2.2.1, ⟨hk.2.2.2.1, ⟨hk.2.2.2.2.1, hk.2.2.2.2.2⟩⟩⟩⟩⟩⟩)⟩, ⟨by (with_reducible repeat (first | apply Kd.R_alloc | apply Kd.R_drewN | apply Kd.R_drew)); exact HO_169002.out⟩, ⟨by (with_reducible repeat (first | apply Kd.V_alloc | apply Kd.V_drewN | apply Kd.V_drew)); exact Kd.V_mono HO_185001.out (fun _ hk => ⟨hk.1, ⟨hk.2.1, ⟨hk.1, ⟨hk.2.2.1, ⟨hk.2.2.2.1, hk.2.2.2.2⟩⟩⟩⟩⟩)⟩, ⟨by (with_reducible repeat (first | apply Kd.V_alloc | apply Kd.V_drewN | apply Kd.V_drew)); exact Kd.V_mono HO_185002.out (fun _ hk => ⟨hk.1, ⟨hk.2.1, ⟨hk.1, ⟨hk.2.2.1, ⟨hk.2.2.2.1, hk.2.2.2.2⟩⟩⟩⟩⟩)⟩, ⟨by (with_reducible repeat (first | refine blk_drewN ?_ _ | refine blk_drew ?_ | refine blk_alloc ?_ _)); exact BK155.out⟩, ⟨by (with_reducible repeat (first | refine blk_drewN ?_ _ | refine blk_drew ?_ | refine blk_alloc ?_ _)); exact BK168.out⟩, ⟨by (with_reducible repeat (first | refine blk_drewN ?_ _ | refine blk_drew ?_ | refine blk_alloc ?_ _)); exact BK184.out⟩, ⟨by repeat (first | (with_reducible exact HR190_0.out) | (with_reducible refine Kd.C_alloc ?_ _) | (with_reducible refine Kd.C_drewN ?_ _) | (with_reducible refine Kd.C_drew ?_) | exact HR190_0.out)⟩, ⟨by repeat (first | (with_reducible first | exact HB.out | apply below_alloc | apply pw_below_drewN | apply below_drew1 | refine below_set ?_ GE155.out | refine below_set ?_ GE168.out | refine below_set ?_ GE184.out) | exact HB.out)⟩⟩
                          case round =>
                            clear H'
                            try clear c1
                            try clear p1
                            try clear q1
                            try clear hx1
                            try clear c2
                            try clear p2
                            try clear c3
                            try clear c4
                            try clear c5
                            try clear c6
                            try clear c6b0
                            try clear c6b1
                            try clear p6
                            try clear c7
                            try clear c7b0
                            try clear c8
                            try clear c8b0
                            try clear c10
                            try clear c11
                            try clear c12
                            try clear c14
                            try clear c14b0
                            try clear c14b1
                            try clear c18
                            try clear c19
                            try clear p19
                            try clear q19
                            try clear hx19
                            try clear c24
                            try clear c25
                            try clear c32
                            try clear c33
                            try clear c38
                            try clear c40
                            try clear c41
                            try clear c41b0
                            try clear c41b1
                            try clear c42
                            try clear c42b0
                            try clear c42b1
                            try clear c42b2
                            try clear c43
                            try clear c44
                            try clear c48
                            try clear c51
                            try clear c52
                            try clear c56
                            try clear c58
                            try clear c59
                            try clear c63
                            try clear c64
                            try clear p64
                            try clear c67
                            try clear c69
                            try clear c69b0
                            try clear c70
                            try clear c70b0
                            try clear c71
                            try clear c71b0
                            try clear hcz21_0
                            try clear hcz21_1
                            try clear hcz21_2
                            try clear hcz25_0
                            try clear hcz25_1
                            try clear hcz25_2
                            try clear hcz29_0
                            try clear hcz29_1
                            try clear hcz29_2
                            try clear hcz34_0
                            try clear hcz34_1
                            try clear hcz34_2
                            try clear hcz45_0
                            try clear hcz45_1
                            try clear hcz45_2
                            try clear hcz47_0
                            try clear hcz47_1
                            try clear hcz47_2
                            try clear hcz49_0
                            try clear hcz49_1
                            try clear hcz49_2
                            try clear hcz53_0
                            try clear hcz53_1
                            try clear hcz53_2
                            try clear hcz55_0
                            try clear hcz55_1
                            try clear hcz55_2
                            try clear hcz57_0
                            try clear hcz57_1
                            try clear hcz57_2
                            try clear hcz60_0
                            try clear hcz60_1
                            try clear hcz60_2
                            try clear hcz62_0
                            try clear hcz62_1
                            try clear hcz62_2
                            try clear hcz65_0
                            try clear hcz65_1
                            try clear hcz65_2
                            try clear hcz9_0
                            try clear hcz9_1
                            try clear hcz9_2
                            try clear hfz21_0
                            try clear hfz21_1
                            try clear hfz21_2
                            try clear hfz25_0
                            try clear hfz25_1
                            try clear hfz25_2
                            try clear hfz29_0
                            try clear hfz29_1
                            try clear hfz29_2
                            try clear hfz34_0
                            try clear hfz34_1
                            try clear hfz34_2
                            try clear hfz45_0
                            try clear hfz45_1
                            try clear hfz45_2
                            try clear hfz47_0
                            try clear hfz47_1
                            try clear hfz47_2
                            try clear hfz49_0
                            try clear hfz49_1
                            try clear hfz49_2
                            try clear hfz53_0
                            try clear hfz53_1
                            try clear hfz53_2
                            try clear hfz55_0
                            try clear hfz55_1
                            try clear hfz55_2
                            try clear hfz57_0
                            try clear hfz57_1
                            try clear hfz57_2
                            try clear hfz60_0
                            try clear hfz60_1
                            try clear hfz60_2
                            try clear hfz62_0
                            try clear hfz62_1
                            try clear hfz62_2
                            try clear hfz65_0
                            try clear hfz65_1
                            try clear hfz65_2
                            try clear hfz9_0
                            try clear hfz9_1
                            try clear hfz9_2
                            try clear hx190_0
                            try clear p190
                            try clear p2
                            try clear p6
                            try clear p64
                            try clear q190
                            obtain ⟨x15_4, x113_4, rfl, rfl, HA, HK4, HO_12, HO_104, HO_111, HO_169001, HO_169002, HO_185001, HO_185002, BK155, BK168, BK184, HR190_0, HB⟩ := hrel
                            cases gk with
                            | zero => exact absurd HA.out (by simp [lookoutlaw50_NetworkDelivers.l1])
                            | succ k4 =>
                              have H := HA.out
                              clear HA
                              simp only [lookoutlaw50_NetworkDelivers.l1] at H
                              by_cases c73 : x113_4 < (t185.length : Int)
                              · rw [if_pos c73] at H
                                have c73b0 : decide (x113_4 < (t185.length : Int)) = true := decide_eq_true c73
                                clear c73
                                by_cases c74 : 0 ≤ x113_4
                                · rw [if_pos c74] at H
                                  have c74b0 : decide (0 ≤ x113_4) = true := decide_eq_true c74
                                  clear c74
                                  by_cases c75 : x113_4 < (t185.length : Int)
                                  · rw [if_pos c75] at H
                                    have c75b0 : decide (x113_4 < (t185.length : Int)) = true := decide_eq_true c75
                                    clear c75
                                    by_cases c76 : (rd t185 x113_4) = (wrap64 (x106_3 + 1))
                                    · rw [if_pos c76] at H
                                      have c76b0 : ((rd t185 x113_4) == (wrap64 (x106_3 + 1))) = true := beq_iff_eq.mpr c76
                                      have c76b1 : ((rd t185 x113_4) != (wrap64 (x106_3 + 1))) = false := bne_eq_false_iff_eq.mpr c76
                                      clear c76
                                      have H' := Aside0.mk H
                                      clear H
                                      have p191 : 0 ≤ (x113_4 : Int) := of_decide_eq_true (by first | (with_reducible assumption) | assumption)
                                      have q191 : x113_4 < (t185.length : Int) := of_decide_eq_true (by first | (with_reducible assumption) | assumption)
                                      obtain ⟨ad191, e191, hx191_0⟩ := Kd.at_int (Kd.R_reads' HO_111.out).2.2 x113_4 p191 q191
                                      cases e191
                                      replace p191 := eq_true p191
                                      replace q191 := eq_true q191
                                      go_wp2
                                      go_roundg k4
                                      case measure => have := HJ3.out; have := HJ16.out; have := HK3.out; have := HK4.out; omega
                                      case rel => exact ⟨(wrap64 (x15_4 + 1)), (wrap64 (x113_4 + 1)), (by first | rfl | (simp; done) | (simp [*]; done)), (by first | rfl | (simp; done) | (simp [*]; done)), H', ⟨by have := HJ3.out; have := HJ16.out; have := HK3.out; have := HK4.out; omega⟩, ⟨by (with_reducible repeat (first | apply Kd.R_alloc | apply Kd.R_drewN | apply Kd.R_drew)); exact HO_12.out⟩, ⟨by (with_reducible repeat (first | apply Kd.S_alloc | apply Kd.S_drewN | apply Kd.S_drew)); exact HO_104.out⟩, ⟨by (with_reducible repeat (first | apply Kd.R_alloc | apply Kd.R_drewN | apply Kd.R_drew)); exact HO_111.out⟩, ⟨by (with_reducible repeat (first | apply Kd.V_alloc | apply Kd.V_drewN | apply Kd.V_drew)); exact HO_169001.out⟩, ⟨by (with_reducible repeat (first | apply Kd.R_alloc | apply Kd.R_drewN | apply Kd.R_drew)); exact HO_169002.out⟩, ⟨by (with_reducible repeat (first | apply Kd.V_alloc | apply Kd.V_drewN | apply Kd.V_drew)); exact HO_185001.out⟩, ⟨by (with_reducible repeat (first | apply Kd.V_alloc | apply Kd.V_drewN | apply Kd.V_drew)); exact HO_185002.out⟩, ⟨by (with_reducible repeat (first | refine blk_drewN ?_ _ | refine blk_drew ?_ | refine blk_alloc ?_ _)); exact BK155.out⟩, ⟨by (with_reducible repeat (first | refine blk_drewN ?_ _ | refine blk_drew ?_ | refine blk_alloc ?_ _)); exact BK168.out⟩, ⟨by (with_reducible repeat (first | refine blk_drewN ?_ _ | refine blk_drew ?_ | refine blk_alloc ?_ _)); exact BK184.out⟩, ⟨by repeat (first | (with_reducible exact HR190_0.out) | (with_reducible refine Kd.C_alloc ?_ _) | (with_reducible refine Kd.C_drewN ?_ _) | (with_reducible refine Kd.C_drew ?_) | exact HR190_0.out)⟩, ⟨by repeat (first | (with_reducible first | exact HB.out | apply below_alloc | apply pw_below_drewN | apply below_drew1 | refine below_set ?_ GE155.out | refine below_set ?_ GE168.out | refine below_set ?_ GE184.out) | exact HB.out)⟩⟩
                                    · rw [if_neg c76] at H
                                      have c76b0 : ((rd t185 x113_4) == (wrap64 (x106_3 + 1))) = false := beq_eq_false_iff_ne.mpr c76
                                      have c76b1 : ((rd t185 x113_4) != (wrap64 (x106_3 + 1))) = true := bne_iff_ne.mpr c76
                                      have H' := Aside0.mk H
                                      clear H
                                      have p191 : 0 ≤ (x113_4 : Int) := of_decide_eq_true (by first | (with_reducible assumption) | assumption)
                                      have q191 : x113_4 < (t185.length : Int) := of_decide_eq_true (by first | (with_reducible assumption) | assumption)
                                      obtain ⟨ad191, e191, hx191_0⟩ := Kd.at_int (Kd.R_reads' HO_111.out).2.2 x113_4 p191 q191
                                      cases e191
                                      replace p191 := eq_true p191
                                      replace q191 := eq_true q191
                                      go_wp2
                                      go_roundg k4
                                      case measure => have := HJ3.out; have := HJ16.out; have := HK3.out; have := HK4.out; omega
                                      case rel => exact ⟨(x15_4), (wrap64 (x113_4 + 1)), (by first | rfl | (simp; done) | (simp [*]; done)), (by first | rfl | (simp; done) | (simp [*]; done)), H', ⟨by have := HJ3.out; have := HJ16.out; have := HK3.out; have := HK4.out; omega⟩, ⟨by (with_reducible repeat (first | apply Kd.R_alloc | apply Kd.R_drewN | apply Kd.R_drew)); exact HO_12.out⟩, ⟨by (with_reducible repeat (first | apply Kd.S_alloc | apply Kd.S_drewN | apply Kd.S_drew)); exact HO_104.out⟩, ⟨by (with_reducible repeat (first | apply Kd.R_alloc | apply Kd.R_drewN | apply Kd.R_drew)); exact HO_111.out⟩, ⟨by (with_reducible repeat (first | apply Kd.V_alloc | apply Kd.V_drewN | apply Kd.V_drew)); exact HO_169001.out⟩, ⟨by (with_reducible repeat (first | apply Kd.R_alloc | apply Kd.R_drewN | apply Kd.R_drew)); exact HO_169002.out⟩, ⟨by (with_reducible repeat (first | apply Kd.V_alloc | apply Kd.V_drewN | apply Kd.V_drew)); exact HO_185001.out⟩, ⟨by (with_reducible repeat (first | apply Kd.V_alloc | apply Kd.V_drewN | apply Kd.V_drew)); exact HO_185002.out⟩, ⟨by (with_reducible repeat (first | refine blk_drewN ?_ _ | refine blk_drew ?_ | refine blk_alloc ?_ _)); exact BK155.out⟩, ⟨by (with_reducible repeat (first | refine blk_drewN ?_ _ | refine blk_drew ?_ | refine blk_alloc ?_ _)); exact BK168.out⟩, ⟨by (with_reducible repeat (first | refine blk_drewN ?_ _ | refine blk_drew ?_ | refine blk_alloc ?_ _)); exact BK184.out⟩, ⟨by repeat (first | (with_reducible exact HR190_0.out) | (with_reducible refine Kd.C_alloc ?_ _) | (with_reducible refine Kd.C_drewN ?_ _) | (with_reducible refine Kd.C_drew ?_) | exact HR190_0.out)⟩, ⟨by repeat (first | (with_reducible first | exact HB.out | apply below_alloc | apply pw_below_drewN | apply below_drew1 | refine below_set ?_ GE155.out | refine below_set ?_ GE168.out | refine below_set ?_ GE184.out) | exact HB.out)⟩⟩
                                  · rw [if_neg c75] at H
                                    exact absurd H (by simp)
                                · rw [if_neg c74] at H
                                  exact absurd H (by simp)
                              · rw [if_neg c73] at H
                                have c73b0 : decide (x113_4 < (t185.length : Int)) = false := decide_eq_false c73
                                clear c73
                                by_cases c77 : ((rd_L7 t173 x106_3).length : Int) = x15_4
                                · rw [if_pos c77] at H
                                  have c77b0 : (((rd_L7 t173 x106_3).length : Int) == x15_4) = true := beq_iff_eq.mpr c77
                                  have c77b1 : (((rd_L7 t173 x106_3).length : Int) != x15_4) = false := bne_eq_false_iff_eq.mpr c77
                                  clear c77
                                  replace H := Option.bind_eq_some_iff.mp H
                                  obtain ⟨t192, A780, H⟩ := H
                                  replace H : (if t192 = true then (none) else (lookoutlaw50_NetworkDelivers.l0 k4 t185 t173 (t173.length : Int) (wrap64 (x106_3 + 1)) a2_0 a2_1 a2_2)) = some r := H
                                  have A78 := Aside0.mk A780
                                  clear A780
                                  by_cases c79 : t192 = true
                                  · subst c79
                                    have H1 : (none) = some r := by rw [if_pos rfl] at H; exact H
                                    clear H
                                    have H := H1
                                    clear H1
                                    exact absurd H (by simp)
                                  · replace c79 := Bool.eq_false_iff.mpr c79
                                    subst c79
                                    have H1 : (lookoutlaw50_NetworkDelivers.l0 k4 t185 t173 (t173.length : Int) (wrap64 (x106_3 + 1)) a2_0 a2_1 a2_2) = some r := by rw [if_neg (show ¬ (false = true) by decide)] at H; exact H
                                    clear H
                                    have H := H1
                                    clear H1
                                    have H' := Aside0.mk H
                                    clear H
                                    have hnb80 := NB155_168.out
                                    have hnc80 := NB168_155.out
                                    have hnb81 := NB155_184.out
                                    have hnc81 := NB184_155.out
                                    have hcz82_0 : wr.cell? ⟨gb155, 0, none⟩ = some (.int .i64 a2_0) := (blk_cell BK155.out 0).trans rfl
                                    have hcz82_1 : wr.cell? ⟨gb155, 1, none⟩ = some (.int .i64 a2_1) := (blk_cell BK155.out 1).trans rfl
                                    have hcz82_2 : wr.cell? ⟨gb155, 2, none⟩ = some (.string a2_2) := (blk_cell BK155.out 2).trans rfl
                                    have hfz82_0 := blk_frozen BK155.out 0
                                    have hfz82_1 := blk_frozen BK155.out 1
                                    have hfz82_2 := blk_frozen BK155.out 2
                                    go_wp2_with (first | (go_at_call 26; (with_reducible refine (contains_other.calls _ _ (rd_L7 t173 x106_3) a2_0 a2_1 a2_2 false _ _ ?sideb ?side1 ?side2 A78.out).mono ?_); (case sideb => (with_reducible repeat (first | refine blk_drewN ?_ _ | refine blk_drew ?_ | refine blk_alloc ?_ _)); exact BK155.out); (case side1 => repeat (first | exact HR190_0.out | exact (Kd.C_below HR190_0.out HB.out) | (with_reducible refine Kd.C_alloc ?_ _) | (with_reducible refine Kd.C_drewN ?_ _) | (with_reducible refine Kd.C_drew ?_))); (case side2 => exact HC190_0.out); rintro e w83 ⟨rfl, hb⟩; have n0_ := Aside0.mk (Kd.R_below (by (with_reducible repeat (first | apply Kd.R_alloc | apply Kd.R_drewN | apply Kd.R_drew)); exact HO_12.out) hb); have n1_ := Aside0.mk (Kd.S_below (by (with_reducible repeat (first | apply Kd.S_alloc | apply Kd.S_drewN | apply Kd.S_drew)); exact HO_104.out) hb); have n2_ := Aside0.mk (Kd.R_below (by (with_reducible repeat (first | apply Kd.R_alloc | apply Kd.R_drewN | apply Kd.R_drew)); exact HO_111.out) hb); have n3_ := Aside0.mk (Kd.V_below (by (with_reducible repeat (first | apply Kd.V_alloc | apply Kd.V_drewN | apply Kd.V_drew)); exact HO_169001.out) hb); have n4_ := Aside0.mk (Kd.R_below (by (with_reducible repeat (first | apply Kd.R_alloc | apply Kd.R_drewN | apply Kd.R_drew)); exact HO_169002.out) hb); have n5_ := Aside0.mk (Kd.V_below (by (with_reducible repeat (first | apply Kd.V_alloc | apply Kd.V_drewN | apply Kd.V_drew)); exact HO_185001.out) hb); have n6_ := Aside0.mk (Kd.V_below (by (with_reducible repeat (first | apply Kd.V_alloc | apply Kd.V_drewN | apply Kd.V_drew)); exact HO_185002.out) hb); have n7_ := Aside0.mk (blk_below (g := gb155) (o := .cells #[.int .i64 a2_0, .int .i64 a2_1, .string a2_2] 27 (0, 0)) (by (with_reducible repeat (first | refine blk_drewN ?_ _ | refine blk_drew ?_ | refine blk_alloc ?_ _)); exact BK155.out) hb); have n8_ := Aside0.mk (blk_below (g := gb168) (o := .cells #[.int .i64 t160, .slice Ao26 t161.length co26, .slice Ao27 t164.length co27] 25 (0, 0)) (by (with_reducible repeat (first | refine blk_drewN ?_ _ | refine blk_drew ?_ | refine blk_alloc ?_ _)); exact BK168.out) hb); have n9_ := Aside0.mk (blk_below (g := gb184) (o := .cells #[.int .i64 t176, .slice Ao35 t177.length co35, .slice Ao36 t180.length co36] 25 (0, 0)) (by (with_reducible repeat (first | refine blk_drewN ?_ _ | refine blk_drew ?_ | refine blk_alloc ?_ _)); exact BK184.out) hb); have n10_ := Aside0.mk (Kd.C_below (by repeat (first | (with_reducible exact HR190_0.out) | (with_reducible refine Kd.C_alloc ?_ _) | (with_reducible refine Kd.C_drewN ?_ _) | (with_reducible refine Kd.C_drew ?_) | exact HR190_0.out)) hb); have n11_ := Aside0.mk (below_step (by repeat (first | (with_reducible first | exact HB.out | apply below_alloc | apply pw_below_drewN | apply below_drew1 | refine below_set ?_ GE155.out | refine below_set ?_ GE168.out | refine below_set ?_ GE184.out) | exact HB.out)) hb); clear HO_12; clear HO_104; clear HO_111; clear HO_169001; clear HO_169002; clear HO_185001; clear HO_185002; clear BK155; clear BK168; clear BK184; clear HR190_0; clear HB; have HO_12 := n0_; have HO_104 := n1_; have HO_111 := n2_; have HO_169001 := n3_; have HO_169002 := n4_; have HO_185001 := n5_; have HO_185002 := n6_; have BK155 := n7_; have BK168 := n8_; have BK184 := n9_; have HR190_0 := n10_; have HB := n11_; clear n0_ n1_ n2_ n3_ n4_ n5_ n6_ n7_ n8_ n9_ n10_ n11_; (try clear hb); (try clear hb2); (try clear hk); (try clear hi)))
                                    go_roundg k4
                                    case measure => have := HJ3.out; have := HJ16.out; have := HK3.out; have := HK4.out; omega
                                    case rel => exact ⟨(wrap64 (x106_3 + 1)), (by first | rfl | (simp; done) | (simp [*]; done)), H', ⟨by have := HJ3.out; have := HJ16.out; have := HK3.out; have := HK4.out; omega⟩, ⟨by (with_reducible repeat (first | apply Kd.R_alloc | apply Kd.R_drewN | apply Kd.R_drew)); exact HO_12.out⟩, ⟨by (with_reducible repeat (first | apply Kd.S_alloc | apply Kd.S_drewN | apply Kd.S_drew)); exact HO_104.out⟩, ⟨by (with_reducible repeat (first | apply Kd.V_alloc | apply Kd.V_drewN | apply Kd.V_drew)); exact Kd.V_mono HO_169001.out (fun _ hk => ⟨hk.1, ⟨hk.2.1, ⟨hk.2.2.2.1, ⟨hk.2.2.2.2.1, ⟨hk.2.2.2.2.2.1, hk.2.2.2.2.2.2⟩⟩⟩⟩⟩)⟩, ⟨by (with_reducible repeat (first | apply Kd.R_alloc | apply Kd.R_drewN | apply Kd.R_drew)); exact HO_169002.out⟩, ⟨by (with_reducible repeat (first | apply Kd.V_alloc | apply Kd.V_drewN | apply Kd.V_drew)); exact Kd.V_mono HO_185001.out (fun _ hk => ⟨hk.1, ⟨hk.2.1, ⟨hk.2.2.2.1, ⟨hk.2.2.2.2.1, hk.2.2.2.2.2⟩⟩⟩⟩)⟩, ⟨by (with_reducible repeat (first | apply Kd.V_alloc | apply Kd.V_drewN | apply Kd.V_drew)); exact Kd.V_mono HO_185002.out (fun _ hk => ⟨hk.1, ⟨hk.2.1, ⟨hk.2.2.2.1, ⟨hk.2.2.2.2.1, hk.2.2.2.2.2⟩⟩⟩⟩)⟩, ⟨by (with_reducible repeat (first | refine blk_drewN ?_ _ | refine blk_drew ?_ | refine blk_alloc ?_ _)); exact BK155.out⟩, ⟨by (with_reducible repeat (first | refine blk_drewN ?_ _ | refine blk_drew ?_ | refine blk_alloc ?_ _)); exact BK168.out⟩, ⟨by (with_reducible repeat (first | refine blk_drewN ?_ _ | refine blk_drew ?_ | refine blk_alloc ?_ _)); exact BK184.out⟩, ⟨by repeat (first | (with_reducible first | exact HB.out | apply below_alloc | apply pw_below_drewN | apply below_drew1 | refine below_set ?_ GE155.out | refine below_set ?_ GE168.out | refine below_set ?_ GE184.out) | exact HB.out)⟩⟩
                                · rw [if_neg c77] at H
                                  exact absurd H (by simp)
                        · rw [if_neg c71] at H
                          exact absurd H (by simp)
                      · rw [if_neg c70] at H
                        exact absurd H (by simp)
                    · rw [if_neg c69] at H
                      have c69b0 : decide (x106_3 < (t173.length : Int)) = false := decide_eq_false c69
                      clear c69
                      replace H := Option.bind_eq_some_iff.mp H
                      obtain ⟨t189, A840, H⟩ := H
                      replace H : (some t189) = some r := H
                      have A84 := Aside0.mk A840
                      clear A840
                      obtain rfl := Option.some.inj H
                      go_wp2_with (first | ((with_reducible refine gate_callee (f := 11) rfl ?_); refine goesL_ (some 134) rfl rfl Try.func11 (by kernel_rfl) rfl #[] rfl (by (try simp only [List.map_toArray, List.map_cons, List.map_nil]); first | done | rfl | (simp only [List.length_drop, List.length_take]; rfl)) ?_; (with_reducible refine (lookoutlaw50_awake.calls k3  t189 _ A84.out).mono ?_); rintro e w85 ⟨rfl, hb⟩; refine ⟨_, rfl, ?_⟩; have n0_ := Aside0.mk (Kd.R_below (by (with_reducible repeat (first | apply Kd.R_alloc | apply Kd.R_drewN | apply Kd.R_drew)); exact HO_12.out) hb); have n1_ := Aside0.mk (Kd.S_below (by (with_reducible repeat (first | apply Kd.S_alloc | apply Kd.S_drewN | apply Kd.S_drew)); exact HO_104.out) hb); have n2_ := Aside0.mk (Kd.V_below (by (with_reducible repeat (first | apply Kd.V_alloc | apply Kd.V_drewN | apply Kd.V_drew)); exact HO_169001.out) hb); have n3_ := Aside0.mk (Kd.R_below (by (with_reducible repeat (first | apply Kd.R_alloc | apply Kd.R_drewN | apply Kd.R_drew)); exact HO_169002.out) hb); have n4_ := Aside0.mk (Kd.V_below (by (with_reducible repeat (first | apply Kd.V_alloc | apply Kd.V_drewN | apply Kd.V_drew)); exact HO_185001.out) hb); have n5_ := Aside0.mk (Kd.V_below (by (with_reducible repeat (first | apply Kd.V_alloc | apply Kd.V_drewN | apply Kd.V_drew)); exact HO_185002.out) hb); have n6_ := Aside0.mk (blk_below (g := gb155) (o := .cells #[.int .i64 a2_0, .int .i64 a2_1, .string a2_2] 27 (0, 0)) (by (with_reducible repeat (first | refine blk_drewN ?_ _ | refine blk_drew ?_ | refine blk_alloc ?_ _)); exact BK155.out) hb); have n7_ := Aside0.mk (blk_below (g := gb168) (o := .cells #[.int .i64 t160, .slice Ao26 t161.length co26, .slice Ao27 t164.length co27] 25 (0, 0)) (by (with_reducible repeat (first | refine blk_drewN ?_ _ | refine blk_drew ?_ | refine blk_alloc ?_ _)); exact BK168.out) hb); have n8_ := Aside0.mk (blk_below (g := gb184) (o := .cells #[.int .i64 t176, .slice Ao35 t177.length co35, .slice Ao36 t180.length co36] 25 (0, 0)) (by (with_reducible repeat (first | refine blk_drewN ?_ _ | refine blk_drew ?_ | refine blk_alloc ?_ _)); exact BK184.out) hb); have n9_ := Aside0.mk (below_step (by repeat (first | (with_reducible first | exact HB.out | apply below_alloc | apply pw_below_drewN | apply below_drew1 | refine below_set ?_ GE155.out | refine below_set ?_ GE168.out | refine below_set ?_ GE184.out) | exact HB.out)) hb); clear HO_12; clear HO_104; clear HO_169001; clear HO_169002; clear HO_185001; clear HO_185002; clear BK155; clear BK168; clear BK184; clear HB; have HO_12 := n0_; have HO_104 := n1_; have HO_169001 := n2_; have HO_169002 := n3_; have HO_185001 := n4_; have HO_185002 := n5_; have BK155 := n6_; have BK168 := n7_; have BK184 := n8_; have HB := n9_; clear n0_ n1_ n2_ n3_ n4_ n5_ n6_ n7_ n8_ n9_; (try clear hb); (try clear hb2); (try clear hk); (try clear hi)))
                      go_ret
                      exact ⟨by first | rfl | (simp [errW_none, errW_some] <;> rfl) | (simp [*, errW_none, errW_some] <;> rfl), by repeat (first | (with_reducible first | exact HB.out | apply below_alloc | apply pw_below_drewN | apply below_drew1 | refine below_set ?_ GE155.out | refine below_set ?_ GE168.out | refine below_set ?_ GE184.out) | exact HB.out)⟩
        · rw [if_neg c14] at H
          have c14b0 : (t167 == 0) = false := beq_eq_false_iff_ne.mpr c14
          have c14b1 : (t167 != 0) = true := bne_iff_ne.mpr c14
          by_cases c86 : t167 = 2
          · rw [if_pos c86] at H
            have c86b0 : (t167 == 2) = true := beq_iff_eq.mpr c86
            have c86b1 : (t167 != 2) = false := bne_eq_false_iff_eq.mpr c86
            clear c86
            by_cases c87 : a2_0 < (-1)
            · rw [if_pos c87] at H
              have c87b0 : decide (a2_0 < (-1)) = true := decide_eq_true c87
              clear c87
              replace H := Option.bind_eq_some_iff.mp H
              obtain ⟨t169, A880, H⟩ := H
              replace H : (some t169) = some r := H
              have A88 := Aside0.mk A880
              clear A880
              obtain rfl := Option.some.inj H
              go_wp2_with (first | ((with_reducible refine gate_dst (N := 38) rfl ?_); (try (refine gate_guard (by rfl) ?_; dsimp only)); refine Kd.R_lit (Kd.int .i64) _ 3 ?hg (N := 38) ?hd (xs := ([a1] : List Int)) (inner := [.int .i64 a1]) (ok := fun _ => True) (okp := fun _ => True) ?hr ?hp (fun _ hk => hk) trivial (Below.refl _ _) (Nat.le_refl _) (by simp) ?_; (case hd => rfl); (case hg => rfl); (case hr => first | (go_simp; done) | (go_simp; rfl)); (case hp => exact (Reps.one (show Kd.M (Kd.int .i64) _ _ _ a1 [.int .i64 a1] from rfl) (Reps.none _ _))); intro v158 w89 ho90 hb hg_ hnew_; clear hg_ hnew_; (first | rw [← Ny157.out] at ho90 | (simp only [Int.reduceToNat] at ho90; rw [← Ny157.out] at ho90)); have n0_ := Aside0.mk (Kd.R_lower ho90 (below_size (by repeat (first | (with_reducible first | exact HB.out | apply below_alloc | apply pw_below_drewN | apply below_drew1 | refine below_set ?_ GE155.out) | exact HB.out)))); have n1_ := Aside0.mk (blk_below (g := gb155) (o := .cells #[.int .i64 a2_0, .int .i64 a2_1, .string a2_2] 27 (0, 0)) (by (with_reducible repeat (first | refine blk_drewN ?_ _ | refine blk_drew ?_ | refine blk_alloc ?_ _)); exact BK155.out) hb); have n2_ := Aside0.mk (below_step (by repeat (first | (with_reducible first | exact HB.out | apply below_alloc | apply pw_below_drewN | apply below_drew1 | refine below_set ?_ GE155.out) | exact HB.out)) hb); clear BK155; clear HB; have HO159 := n0_; have BK155 := n1_; have HB := n2_; clear n0_ n1_ n2_; clear hb ho90; obtain ⟨Ao91, co91, eo91⟩ := Kd.R_slice HO159.out; subst eo91; have hcz92_0 : w89.cell? ⟨gb155, 0, none⟩ = some (.int .i64 a2_0) := (blk_cell BK155.out 0).trans rfl; have hcz92_1 : w89.cell? ⟨gb155, 1, none⟩ = some (.int .i64 a2_1) := (blk_cell BK155.out 1).trans rfl; have hcz92_2 : w89.cell? ⟨gb155, 2, none⟩ = some (.string a2_2) := (blk_cell BK155.out 2).trans rfl; have hfz92_0 := blk_frozen BK155.out 0; have hfz92_1 := blk_frozen BK155.out 1; have hfz92_2 := blk_frozen BK155.out 2) | ((with_reducible refine gate_callee (f := 12) rfl ?_); refine goesL_ (some 41) rfl rfl Try.func12 (by kernel_rfl) rfl #[.agg #[.int .i64 a0, .slice Ao91 y157.length co91, .slice none 0 0], .agg #[.int .i64 a2_0, .int .i64 a2_1, .string a2_2]] rfl (by (try simp only [List.map_toArray, List.map_cons, List.map_nil]); first | done | rfl | (simp only [List.length_drop, List.length_take]; rfl)) ?_; (refine (network_Send.calls kj3 a0 (fun k_ => some k_ = (.slice Ao91 y157.length co91 : Value).ownBlock) _ _ y157 _ _ ([] : List (S44)) a2_0 a2_1 a2_2 t160 t161 t164 t167 _ ?side1 ?side2 ?side3 A13.out).mono ?_); (case side1 => exact Kd.R_V (Kd.R_tight rfl (Kd.R_types (HO159.out) BK155.out (by decide)))); (case side2 => exact Kd.C_nil _ _); (case side3 => exact Nat.le_refl _); rintro e w93 ⟨v162, v165, rfl, ho0, ho1, hb⟩; refine ⟨_, rfl, ?_⟩; have n0_ := Aside0.mk (Kd.R_below (by (with_reducible repeat (first | apply Kd.R_alloc | apply Kd.R_drewN | apply Kd.R_drew)); exact HO159.out) hb); have n1_ := Aside0.mk (Kd.V_lower (Kd.V_mono (ok' := fun k_ => some k_ ≠ (v165 : Value).ownBlock ∧ k_ ≠ gb155) ho0 (fun k_ hk_ => ⟨hk_.2, Or.elim hk_.1 (fun hs_ => ((Kd.R_types (HO159.out) BK155.out (by decide)).1 k_ hs_.symm).2) (fun hn_ => (Kd.freshB (g := gb155) (o := .cells #[.int .i64 a2_0, .int .i64 a2_1, .string a2_2] 27 (0, 0)) (by (with_reducible repeat (first | refine blk_drewN ?_ _ | refine blk_drew ?_ | refine blk_alloc ?_ _)); exact BK155.out) k_ hn_))⟩)) (below_size (by repeat (first | (with_reducible first | exact HB.out | apply below_alloc | apply pw_below_drewN | apply below_drew1 | refine below_set ?_ GE155.out) | exact HB.out)))); have n2_ := Aside0.mk (Kd.R_lower (Kd.R_mono (ok' := fun k_ => True) ho1 (fun _ hk_ => trivial)) (below_size (by repeat (first | (with_reducible first | exact HB.out | apply below_alloc | apply pw_below_drewN | apply below_drew1 | refine below_set ?_ GE155.out) | exact HB.out)))); have n3_ := Aside0.mk (blk_below (g := gb155) (o := .cells #[.int .i64 a2_0, .int .i64 a2_1, .string a2_2] 27 (0, 0)) (by (with_reducible repeat (first | refine blk_drewN ?_ _ | refine blk_drew ?_ | refine blk_alloc ?_ _)); exact BK155.out) hb); have n4_ := Aside0.mk (below_step (by repeat (first | (with_reducible first | exact HB.out | apply below_alloc | apply pw_below_drewN | apply below_drew1 | refine below_set ?_ GE155.out) | exact HB.out)) hb); clear HO159; clear BK155; clear HB; have HO159 := n0_; have HO163 := n1_; have HO166 := n2_; have BK155 := n3_; have HB := n4_; clear n0_ n1_ n2_ n3_ n4_; (try clear hb); (try clear hb2); (try clear hk); (try clear hi); (try clear ho0); (try clear ho1)) | ((with_reducible refine gate_dst (N := 7) rfl ?_); (try (refine gate_guard (by rfl) ?_; dsimp only)); refine box_event ?hg (N := 7) ?hd (cs := #[.int .i64 0, .slice none 0 0, .slice none 0 0]) (t := 25) ?hr ?_; (case hd => rfl); (case hg => rfl); (case hr => first | (go_simp; done) | (go_simp; rfl)); intro gb168 hg w94 hbox hb; have n0_ := Aside0.mk (Kd.R_below (by (with_reducible repeat (first | apply Kd.R_alloc | apply Kd.R_drewN | apply Kd.R_drew)); exact HO159.out) hb); have n1_ := Aside0.mk (Kd.V_below (Kd.V_elderB (by (with_reducible repeat (first | apply Kd.V_alloc | apply Kd.V_drewN | apply Kd.V_drew)); exact HO163.out) gb168 (Nat.le_of_eq hg.symm)) hb); have n2_ := Aside0.mk (Kd.R_below (by (with_reducible repeat (first | apply Kd.R_alloc | apply Kd.R_drewN | apply Kd.R_drew)); exact HO166.out) hb); have n3_ := Aside0.mk (blk_below (g := gb155) (o := .cells #[.int .i64 a2_0, .int .i64 a2_1, .string a2_2] 27 (0, 0)) (by (with_reducible repeat (first | refine blk_drewN ?_ _ | refine blk_drew ?_ | refine blk_alloc ?_ _)); exact BK155.out) hb); have n4_ := Aside0.mk (below_step (by repeat (first | (with_reducible first | exact HB.out | apply below_alloc | apply pw_below_drewN | apply below_drew1 | refine below_set ?_ GE155.out) | exact HB.out)) hb); have n5_ := Aside0.mk (hbox); have n6_ := Aside0.mk ((by rw [hg]; exact (below_size (by repeat (first | (with_reducible first | exact HB.out | apply below_alloc | apply pw_below_drewN | apply below_drew1 | refine below_set ?_ GE155.out) | exact HB.out))) : w.heap.size ≤ gb168)); have n7_ := Aside0.mk ((by rw [hg]; exact (below_size (by repeat (first | (with_reducible first | exact HB.out | apply below_alloc | apply pw_below_drewN | apply below_drew1 | refine below_set ?_ GE155.out) | exact HB.out))) : w.heap.size ≤ gb168)); have n8_ := Aside0.mk ((by rw [hg]; exact Nat.ne_of_lt (blk_lt (g := gb155) (o := .cells #[.int .i64 a2_0, .int .i64 a2_1, .string a2_2] 27 (0, 0)) (by (with_reducible repeat (first | refine blk_drewN ?_ _ | refine blk_drew ?_ | refine blk_alloc ?_ _)); exact BK155.out)) : gb155 ≠ gb168)); have n9_ := Aside0.mk ((by rw [hg]; exact Nat.ne_of_gt (blk_lt (g := gb155) (o := .cells #[.int .i64 a2_0, .int .i64 a2_1, .string a2_2] 27 (0, 0)) (by (with_reducible repeat (first | refine blk_drewN ?_ _ | refine blk_drew ?_ | refine blk_alloc ?_ _)); exact BK155.out)) : gb168 ≠ gb155)); clear HO159; clear HO163; clear HO166; clear BK155; clear HB; have HO159 := n0_; have HO163 := n1_; have HO166 := n2_; have BK155 := n3_; have HB := n4_; have BK168 := n5_; have GW168 := n6_; have GE168 := n7_; have NB155_168 := n8_; have NB168_155 := n9_; clear n0_ n1_ n2_ n3_ n4_ n5_ n6_ n7_ n8_ n9_; clear hb hbox hg; have hnb95 := NB168_155.out; have hnc95 := NB155_168.out; have hcz96_0 : w94.cell? ⟨gb168, 0, none⟩ = some (.int .i64 0) := (blk_cell BK168.out 0).trans rfl; have hcz96_1 : w94.cell? ⟨gb168, 1, none⟩ = some (.slice none 0 0) := (blk_cell BK168.out 1).trans rfl; have hcz96_2 : w94.cell? ⟨gb168, 2, none⟩ = some (.slice none 0 0) := (blk_cell BK168.out 2).trans rfl; have hfz96_0 := blk_frozen BK168.out 0; have hfz96_1 := blk_frozen BK168.out 1; have hfz96_2 := blk_frozen BK168.out 2; obtain ⟨Ao97, co97, eo97⟩ := Kd.V_slice HO163.out; subst eo97; obtain ⟨Ao98, co98, eo98⟩ := Kd.R_slice HO166.out; subst eo98; have hcz99_0 : w94.cell? ⟨gb155, 0, none⟩ = some (.int .i64 a2_0) := (blk_cell BK155.out 0).trans rfl; have hcz99_1 : w94.cell? ⟨gb155, 1, none⟩ = some (.int .i64 a2_1) := (blk_cell BK155.out 1).trans rfl; have hcz99_2 : w94.cell? ⟨gb155, 2, none⟩ = some (.string a2_2) := (blk_cell BK155.out 2).trans rfl; have hfz99_0 := blk_frozen BK155.out 0; have hfz99_1 := blk_frozen BK155.out 1; have hfz99_2 := blk_frozen BK155.out 2) | (go_at_call 11; (with_reducible refine (lookoutlaw50_awake.calls kj3  t169 _ A88.out).mono ?_); rintro e w100 ⟨rfl, hb⟩; have n0_ := Aside0.mk (Kd.R_below (by (with_reducible repeat (first | apply Kd.R_alloc | apply Kd.R_drewN | apply Kd.R_drew)); exact (Kd.R_mono (Kd.R_far (p := ⟨gb168, 2, none⟩) (Kd.R_far (p := ⟨gb168, 1, none⟩) (Kd.R_far (p := ⟨gb168, 0, none⟩) (Kd.R_types HO159.out BK168.out (by decide)) (fun _ hk => hk.2) (.int .i64 t160)) (fun _ hk => hk.2) (.slice Ao97 t161.length co97)) (fun _ hk => hk.2) (.slice Ao98 t164.length co98)) (fun _ h_ => h_.1))) hb); have n1_ := Aside0.mk (Kd.V_below (by (with_reducible repeat (first | apply Kd.V_alloc | apply Kd.V_drewN | apply Kd.V_drew)); exact (Kd.V_mono (Kd.V_far (p := ⟨gb168, 2, none⟩) (Kd.V_far (p := ⟨gb168, 1, none⟩) (Kd.V_far (p := ⟨gb168, 0, none⟩) (Kd.V_mono HO163.out (fun k_ hk => (⟨hk, hk.2⟩ : _ ∧ k_ ≠ gb168))) (fun _ hk => hk.2) (.int .i64 t160)) (fun _ hk => hk.2) (.slice Ao97 t161.length co97)) (fun _ hk => hk.2) (.slice Ao98 t164.length co98)) (fun _ h_ => h_.1))) hb); have n2_ := Aside0.mk (Kd.R_below (by (with_reducible repeat (first | apply Kd.R_alloc | apply Kd.R_drewN | apply Kd.R_drew)); exact (Kd.R_mono (Kd.R_far (p := ⟨gb168, 2, none⟩) (Kd.R_far (p := ⟨gb168, 1, none⟩) (Kd.R_far (p := ⟨gb168, 0, none⟩) (Kd.R_types HO166.out BK168.out (by decide)) (fun _ hk => hk.2) (.int .i64 t160)) (fun _ hk => hk.2) (.slice Ao97 t161.length co97)) (fun _ hk => hk.2) (.slice Ao98 t164.length co98)) (fun _ h_ => h_.1))) hb); have n3_ := Aside0.mk (blk_below (g := gb155) (o := .cells #[.int .i64 a2_0, .int .i64 a2_1, .string a2_2] 27 (0, 0)) (by (with_reducible repeat (first | refine blk_drewN ?_ _ | refine blk_drew ?_ | refine blk_alloc ?_ _)); refine blk_far ?_ NB155_168.out _; (with_reducible repeat (first | refine blk_drewN ?_ _ | refine blk_drew ?_ | refine blk_alloc ?_ _)); refine blk_far ?_ NB155_168.out _; (with_reducible repeat (first | refine blk_drewN ?_ _ | refine blk_drew ?_ | refine blk_alloc ?_ _)); refine blk_far ?_ NB155_168.out _; (with_reducible repeat (first | refine blk_drewN ?_ _ | refine blk_drew ?_ | refine blk_alloc ?_ _)); exact BK155.out) hb); have n4_ := Aside0.mk (blk_below (g := gb168) (o := .cells #[.int .i64 t160, .slice Ao97 t161.length co97, .slice Ao98 t164.length co98] 25 (0, 0)) (by (with_reducible repeat (first | refine blk_drewN ?_ _ | refine blk_drew ?_ | refine blk_alloc ?_ _)); refine blk_put (cs := #[.int .i64 t160, .slice Ao97 t161.length co97, .slice none 0 0]) ?_ 2 _ rfl; (with_reducible repeat (first | refine blk_drewN ?_ _ | refine blk_drew ?_ | refine blk_alloc ?_ _)); refine blk_put (cs := #[.int .i64 t160, .slice none 0 0, .slice none 0 0]) ?_ 1 _ rfl; (with_reducible repeat (first | refine blk_drewN ?_ _ | refine blk_drew ?_ | refine blk_alloc ?_ _)); refine blk_put (cs := #[.int .i64 0, .slice none 0 0, .slice none 0 0]) ?_ 0 _ rfl; (with_reducible repeat (first | refine blk_drewN ?_ _ | refine blk_drew ?_ | refine blk_alloc ?_ _)); exact BK168.out) hb); have n5_ := Aside0.mk (below_step (by repeat (first | (with_reducible first | exact HB.out | apply below_alloc | apply pw_below_drewN | apply below_drew1 | refine below_set ?_ GE155.out | refine below_set ?_ GE168.out) | exact HB.out)) hb); clear HO159; clear HO163; clear HO166; clear BK155; clear BK168; clear HB; have HO159 := n0_; have HO163 := n1_; have HO166 := n2_; have BK155 := n3_; have BK168 := n4_; have HB := n5_; clear n0_ n1_ n2_ n3_ n4_ n5_; (try clear hb); (try clear hb2); (try clear hk); (try clear hi)))
              go_ret
              exact ⟨by first | rfl | (simp [errW_none, errW_some] <;> rfl) | (simp [*, errW_none, errW_some] <;> rfl), by repeat (first | (with_reducible first | exact HB.out | apply below_alloc | apply pw_below_drewN | apply below_drew1 | refine below_set ?_ GE155.out | refine below_set ?_ GE168.out) | exact HB.out)⟩
            · rw [if_neg c87] at H
              have c87b0 : decide (a2_0 < (-1)) = false := decide_eq_false c87
              clear c87
              by_cases c101 : a2_0 > 15
              · rw [if_pos c101] at H
                have c101b0 : decide (15 < a2_0) = true := decide_eq_true c101
                clear c101
                replace H := Option.bind_eq_some_iff.mp H
                obtain ⟨t170, A1020, H⟩ := H
                replace H : (some t170) = some r := H
                have A102 := Aside0.mk A1020
                clear A1020
                obtain rfl := Option.some.inj H
                go_wp2_with (first | ((with_reducible refine gate_dst (N := 38) rfl ?_); (try (refine gate_guard (by rfl) ?_; dsimp only)); refine Kd.R_lit (Kd.int .i64) _ 3 ?hg (N := 38) ?hd (xs := ([a1] : List Int)) (inner := [.int .i64 a1]) (ok := fun _ => True) (okp := fun _ => True) ?hr ?hp (fun _ hk => hk) trivial (Below.refl _ _) (Nat.le_refl _) (by simp) ?_; (case hd => rfl); (case hg => rfl); (case hr => first | (go_simp; done) | (go_simp; rfl)); (case hp => exact (Reps.one (show Kd.M (Kd.int .i64) _ _ _ a1 [.int .i64 a1] from rfl) (Reps.none _ _))); intro v158 w103 ho104 hb hg_ hnew_; clear hg_ hnew_; (first | rw [← Ny157.out] at ho104 | (simp only [Int.reduceToNat] at ho104; rw [← Ny157.out] at ho104)); have n0_ := Aside0.mk (Kd.R_lower ho104 (below_size (by repeat (first | (with_reducible first | exact HB.out | apply below_alloc | apply pw_below_drewN | apply below_drew1 | refine below_set ?_ GE155.out) | exact HB.out)))); have n1_ := Aside0.mk (blk_below (g := gb155) (o := .cells #[.int .i64 a2_0, .int .i64 a2_1, .string a2_2] 27 (0, 0)) (by (with_reducible repeat (first | refine blk_drewN ?_ _ | refine blk_drew ?_ | refine blk_alloc ?_ _)); exact BK155.out) hb); have n2_ := Aside0.mk (below_step (by repeat (first | (with_reducible first | exact HB.out | apply below_alloc | apply pw_below_drewN | apply below_drew1 | refine below_set ?_ GE155.out) | exact HB.out)) hb); clear BK155; clear HB; have HO159 := n0_; have BK155 := n1_; have HB := n2_; clear n0_ n1_ n2_; clear hb ho104; obtain ⟨Ao105, co105, eo105⟩ := Kd.R_slice HO159.out; subst eo105; have hcz106_0 : w103.cell? ⟨gb155, 0, none⟩ = some (.int .i64 a2_0) := (blk_cell BK155.out 0).trans rfl; have hcz106_1 : w103.cell? ⟨gb155, 1, none⟩ = some (.int .i64 a2_1) := (blk_cell BK155.out 1).trans rfl; have hcz106_2 : w103.cell? ⟨gb155, 2, none⟩ = some (.string a2_2) := (blk_cell BK155.out 2).trans rfl; have hfz106_0 := blk_frozen BK155.out 0; have hfz106_1 := blk_frozen BK155.out 1; have hfz106_2 := blk_frozen BK155.out 2) | ((with_reducible refine gate_callee (f := 12) rfl ?_); refine goesL_ (some 41) rfl rfl Try.func12 (by kernel_rfl) rfl #[.agg #[.int .i64 a0, .slice Ao105 y157.length co105, .slice none 0 0], .agg #[.int .i64 a2_0, .int .i64 a2_1, .string a2_2]] rfl (by (try simp only [List.map_toArray, List.map_cons, List.map_nil]); first | done | rfl | (simp only [List.length_drop, List.length_take]; rfl)) ?_; (refine (network_Send.calls kj3 a0 (fun k_ => some k_ = (.slice Ao105 y157.length co105 : Value).ownBlock) _ _ y157 _ _ ([] : List (S44)) a2_0 a2_1 a2_2 t160 t161 t164 t167 _ ?side1 ?side2 ?side3 A13.out).mono ?_); (case side1 => exact Kd.R_V (Kd.R_tight rfl (Kd.R_types (HO159.out) BK155.out (by decide)))); (case side2 => exact Kd.C_nil _ _); (case side3 => exact Nat.le_refl _); rintro e w107 ⟨v162, v165, rfl, ho0, ho1, hb⟩; refine ⟨_, rfl, ?_⟩; have n0_ := Aside0.mk (Kd.R_below (by (with_reducible repeat (first | apply Kd.R_alloc | apply Kd.R_drewN | apply Kd.R_drew)); exact HO159.out) hb); have n1_ := Aside0.mk (Kd.V_lower (Kd.V_mono (ok' := fun k_ => some k_ ≠ (v165 : Value).ownBlock ∧ k_ ≠ gb155) ho0 (fun k_ hk_ => ⟨hk_.2, Or.elim hk_.1 (fun hs_ => ((Kd.R_types (HO159.out) BK155.out (by decide)).1 k_ hs_.symm).2) (fun hn_ => (Kd.freshB (g := gb155) (o := .cells #[.int .i64 a2_0, .int .i64 a2_1, .string a2_2] 27 (0, 0)) (by (with_reducible repeat (first | refine blk_drewN ?_ _ | refine blk_drew ?_ | refine blk_alloc ?_ _)); exact BK155.out) k_ hn_))⟩)) (below_size (by repeat (first | (with_reducible first | exact HB.out | apply below_alloc | apply pw_below_drewN | apply below_drew1 | refine below_set ?_ GE155.out) | exact HB.out)))); have n2_ := Aside0.mk (Kd.R_lower (Kd.R_mono (ok' := fun k_ => True) ho1 (fun _ hk_ => trivial)) (below_size (by repeat (first | (with_reducible first | exact HB.out | apply below_alloc | apply pw_below_drewN | apply below_drew1 | refine below_set ?_ GE155.out) | exact HB.out)))); have n3_ := Aside0.mk (blk_below (g := gb155) (o := .cells #[.int .i64 a2_0, .int .i64 a2_1, .string a2_2] 27 (0, 0)) (by (with_reducible repeat (first | refine blk_drewN ?_ _ | refine blk_drew ?_ | refine blk_alloc ?_ _)); exact BK155.out) hb); have n4_ := Aside0.mk (below_step (by repeat (first | (with_reducible first | exact HB.out | apply below_alloc | apply pw_below_drewN | apply below_drew1 | refine below_set ?_ GE155.out) | exact HB.out)) hb); clear HO159; clear BK155; clear HB; have HO159 := n0_; have HO163 := n1_; have HO166 := n2_; have BK155 := n3_; have HB := n4_; clear n0_ n1_ n2_ n3_ n4_; (try clear hb); (try clear hb2); (try clear hk); (try clear hi); (try clear ho0); (try clear ho1)) | ((with_reducible refine gate_dst (N := 7) rfl ?_); (try (refine gate_guard (by rfl) ?_; dsimp only)); refine box_event ?hg (N := 7) ?hd (cs := #[.int .i64 0, .slice none 0 0, .slice none 0 0]) (t := 25) ?hr ?_; (case hd => rfl); (case hg => rfl); (case hr => first | (go_simp; done) | (go_simp; rfl)); intro gb168 hg w108 hbox hb; have n0_ := Aside0.mk (Kd.R_below (by (with_reducible repeat (first | apply Kd.R_alloc | apply Kd.R_drewN | apply Kd.R_drew)); exact HO159.out) hb); have n1_ := Aside0.mk (Kd.V_below (Kd.V_elderB (by (with_reducible repeat (first | apply Kd.V_alloc | apply Kd.V_drewN | apply Kd.V_drew)); exact HO163.out) gb168 (Nat.le_of_eq hg.symm)) hb); have n2_ := Aside0.mk (Kd.R_below (by (with_reducible repeat (first | apply Kd.R_alloc | apply Kd.R_drewN | apply Kd.R_drew)); exact HO166.out) hb); have n3_ := Aside0.mk (blk_below (g := gb155) (o := .cells #[.int .i64 a2_0, .int .i64 a2_1, .string a2_2] 27 (0, 0)) (by (with_reducible repeat (first | refine blk_drewN ?_ _ | refine blk_drew ?_ | refine blk_alloc ?_ _)); exact BK155.out) hb); have n4_ := Aside0.mk (below_step (by repeat (first | (with_reducible first | exact HB.out | apply below_alloc | apply pw_below_drewN | apply below_drew1 | refine below_set ?_ GE155.out) | exact HB.out)) hb); have n5_ := Aside0.mk (hbox); have n6_ := Aside0.mk ((by rw [hg]; exact (below_size (by repeat (first | (with_reducible first | exact HB.out | apply below_alloc | apply pw_below_drewN | apply below_drew1 | refine below_set ?_ GE155.out) | exact HB.out))) : w.heap.size ≤ gb168)); have n7_ := Aside0.mk ((by rw [hg]; exact (below_size (by repeat (first | (with_reducible first | exact HB.out | apply below_alloc | apply pw_below_drewN | apply below_drew1 | refine below_set ?_ GE155.out) | exact HB.out))) : w.heap.size ≤ gb168)); have n8_ := Aside0.mk ((by rw [hg]; exact Nat.ne_of_lt (blk_lt (g := gb155) (o := .cells #[.int .i64 a2_0, .int .i64 a2_1, .string a2_2] 27 (0, 0)) (by (with_reducible repeat (first | refine blk_drewN ?_ _ | refine blk_drew ?_ | refine blk_alloc ?_ _)); exact BK155.out)) : gb155 ≠ gb168)); have n9_ := Aside0.mk ((by rw [hg]; exact Nat.ne_of_gt (blk_lt (g := gb155) (o := .cells #[.int .i64 a2_0, .int .i64 a2_1, .string a2_2] 27 (0, 0)) (by (with_reducible repeat (first | refine blk_drewN ?_ _ | refine blk_drew ?_ | refine blk_alloc ?_ _)); exact BK155.out)) : gb168 ≠ gb155)); clear HO159; clear HO163; clear HO166; clear BK155; clear HB; have HO159 := n0_; have HO163 := n1_; have HO166 := n2_; have BK155 := n3_; have HB := n4_; have BK168 := n5_; have GW168 := n6_; have GE168 := n7_; have NB155_168 := n8_; have NB168_155 := n9_; clear n0_ n1_ n2_ n3_ n4_ n5_ n6_ n7_ n8_ n9_; clear hb hbox hg; have hnb109 := NB168_155.out; have hnc109 := NB155_168.out; have hcz110_0 : w108.cell? ⟨gb168, 0, none⟩ = some (.int .i64 0) := (blk_cell BK168.out 0).trans rfl; have hcz110_1 : w108.cell? ⟨gb168, 1, none⟩ = some (.slice none 0 0) := (blk_cell BK168.out 1).trans rfl; have hcz110_2 : w108.cell? ⟨gb168, 2, none⟩ = some (.slice none 0 0) := (blk_cell BK168.out 2).trans rfl; have hfz110_0 := blk_frozen BK168.out 0; have hfz110_1 := blk_frozen BK168.out 1; have hfz110_2 := blk_frozen BK168.out 2; obtain ⟨Ao111, co111, eo111⟩ := Kd.V_slice HO163.out; subst eo111; obtain ⟨Ao112, co112, eo112⟩ := Kd.R_slice HO166.out; subst eo112; have hcz113_0 : w108.cell? ⟨gb155, 0, none⟩ = some (.int .i64 a2_0) := (blk_cell BK155.out 0).trans rfl; have hcz113_1 : w108.cell? ⟨gb155, 1, none⟩ = some (.int .i64 a2_1) := (blk_cell BK155.out 1).trans rfl; have hcz113_2 : w108.cell? ⟨gb155, 2, none⟩ = some (.string a2_2) := (blk_cell BK155.out 2).trans rfl; have hfz113_0 := blk_frozen BK155.out 0; have hfz113_1 := blk_frozen BK155.out 1; have hfz113_2 := blk_frozen BK155.out 2) | (go_at_call 11; (with_reducible refine (lookoutlaw50_awake.calls kj3  t170 _ A102.out).mono ?_); rintro e w114 ⟨rfl, hb⟩; have n0_ := Aside0.mk (Kd.R_below (by (with_reducible repeat (first | apply Kd.R_alloc | apply Kd.R_drewN | apply Kd.R_drew)); exact (Kd.R_mono (Kd.R_far (p := ⟨gb168, 2, none⟩) (Kd.R_far (p := ⟨gb168, 1, none⟩) (Kd.R_far (p := ⟨gb168, 0, none⟩) (Kd.R_types HO159.out BK168.out (by decide)) (fun _ hk => hk.2) (.int .i64 t160)) (fun _ hk => hk.2) (.slice Ao111 t161.length co111)) (fun _ hk => hk.2) (.slice Ao112 t164.length co112)) (fun _ h_ => h_.1))) hb); have n1_ := Aside0.mk (Kd.V_below (by (with_reducible repeat (first | apply Kd.V_alloc | apply Kd.V_drewN | apply Kd.V_drew)); exact (Kd.V_mono (Kd.V_far (p := ⟨gb168, 2, none⟩) (Kd.V_far (p := ⟨gb168, 1, none⟩) (Kd.V_far (p := ⟨gb168, 0, none⟩) (Kd.V_mono HO163.out (fun k_ hk => (⟨hk, hk.2⟩ : _ ∧ k_ ≠ gb168))) (fun _ hk => hk.2) (.int .i64 t160)) (fun _ hk => hk.2) (.slice Ao111 t161.length co111)) (fun _ hk => hk.2) (.slice Ao112 t164.length co112)) (fun _ h_ => h_.1))) hb); have n2_ := Aside0.mk (Kd.R_below (by (with_reducible repeat (first | apply Kd.R_alloc | apply Kd.R_drewN | apply Kd.R_drew)); exact (Kd.R_mono (Kd.R_far (p := ⟨gb168, 2, none⟩) (Kd.R_far (p := ⟨gb168, 1, none⟩) (Kd.R_far (p := ⟨gb168, 0, none⟩) (Kd.R_types HO166.out BK168.out (by decide)) (fun _ hk => hk.2) (.int .i64 t160)) (fun _ hk => hk.2) (.slice Ao111 t161.length co111)) (fun _ hk => hk.2) (.slice Ao112 t164.length co112)) (fun _ h_ => h_.1))) hb); have n3_ := Aside0.mk (blk_below (g := gb155) (o := .cells #[.int .i64 a2_0, .int .i64 a2_1, .string a2_2] 27 (0, 0)) (by (with_reducible repeat (first | refine blk_drewN ?_ _ | refine blk_drew ?_ | refine blk_alloc ?_ _)); refine blk_far ?_ NB155_168.out _; (with_reducible repeat (first | refine blk_drewN ?_ _ | refine blk_drew ?_ | refine blk_alloc ?_ _)); refine blk_far ?_ NB155_168.out _; (with_reducible repeat (first | refine blk_drewN ?_ _ | refine blk_drew ?_ | refine blk_alloc ?_ _)); refine blk_far ?_ NB155_168.out _; (with_reducible repeat (first | refine blk_drewN ?_ _ | refine blk_drew ?_ | refine blk_alloc ?_ _)); exact BK155.out) hb); have n4_ := Aside0.mk (blk_below (g := gb168) (o := .cells #[.int .i64 t160, .slice Ao111 t161.length co111, .slice Ao112 t164.length co112] 25 (0, 0)) (by (with_reducible repeat (first | refine blk_drewN ?_ _ | refine blk_drew ?_ | refine blk_alloc ?_ _)); refine blk_put (cs := #[.int .i64 t160, .slice Ao111 t161.length co111, .slice none 0 0]) ?_ 2 _ rfl; (with_reducible repeat (first | refine blk_drewN ?_ _ | refine blk_drew ?_ | refine blk_alloc ?_ _)); refine blk_put (cs := #[.int .i64 t160, .slice none 0 0, .slice none 0 0]) ?_ 1 _ rfl; (with_reducible repeat (first | refine blk_drewN ?_ _ | refine blk_drew ?_ | refine blk_alloc ?_ _)); refine blk_put (cs := #[.int .i64 0, .slice none 0 0, .slice none 0 0]) ?_ 0 _ rfl; (with_reducible repeat (first | refine blk_drewN ?_ _ | refine blk_drew ?_ | refine blk_alloc ?_ _)); exact BK168.out) hb); have n5_ := Aside0.mk (below_step (by repeat (first | (with_reducible first | exact HB.out | apply below_alloc | apply pw_below_drewN | apply below_drew1 | refine below_set ?_ GE155.out | refine below_set ?_ GE168.out) | exact HB.out)) hb); clear HO159; clear HO163; clear HO166; clear BK155; clear BK168; clear HB; have HO159 := n0_; have HO163 := n1_; have HO166 := n2_; have BK155 := n3_; have BK168 := n4_; have HB := n5_; clear n0_ n1_ n2_ n3_ n4_ n5_; (try clear hb); (try clear hb2); (try clear hk); (try clear hi)))
                go_ret
                exact ⟨by first | rfl | (simp [errW_none, errW_some] <;> rfl) | (simp [*, errW_none, errW_some] <;> rfl), by repeat (first | (with_reducible first | exact HB.out | apply below_alloc | apply pw_below_drewN | apply below_drew1 | refine below_set ?_ GE155.out | refine below_set ?_ GE168.out) | exact HB.out)⟩
              · rw [if_neg c101] at H
                have c101b0 : decide (15 < a2_0) = false := decide_eq_false c101
                clear c101
                by_cases c115 : a2_1 < (-1)
                · rw [if_pos c115] at H
                  have c115b0 : decide (a2_1 < (-1)) = true := decide_eq_true c115
                  clear c115
                  replace H := Option.bind_eq_some_iff.mp H
                  obtain ⟨t171, A1160, H⟩ := H
                  replace H : (some t171) = some r := H
                  have A116 := Aside0.mk A1160
                  clear A1160
                  obtain rfl := Option.some.inj H
                  go_wp2_with (first | ((with_reducible refine gate_dst (N := 38) rfl ?_); (try (refine gate_guard (by rfl) ?_; dsimp only)); refine Kd.R_lit (Kd.int .i64) _ 3 ?hg (N := 38) ?hd (xs := ([a1] : List Int)) (inner := [.int .i64 a1]) (ok := fun _ => True) (okp := fun _ => True) ?hr ?hp (fun _ hk => hk) trivial (Below.refl _ _) (Nat.le_refl _) (by simp) ?_; (case hd => rfl); (case hg => rfl); (case hr => first | (go_simp; done) | (go_simp; rfl)); (case hp => exact (Reps.one (show Kd.M (Kd.int .i64) _ _ _ a1 [.int .i64 a1] from rfl) (Reps.none _ _))); intro v158 w117 ho118 hb hg_ hnew_; clear hg_ hnew_; (first | rw [← Ny157.out] at ho118 | (simp only [Int.reduceToNat] at ho118; rw [← Ny157.out] at ho118)); have n0_ := Aside0.mk (Kd.R_lower ho118 (below_size (by repeat (first | (with_reducible first | exact HB.out | apply below_alloc | apply pw_below_drewN | apply below_drew1 | refine below_set ?_ GE155.out) | exact HB.out)))); have n1_ := Aside0.mk (blk_below (g := gb155) (o := .cells #[.int .i64 a2_0, .int .i64 a2_1, .string a2_2] 27 (0, 0)) (by (with_reducible repeat (first | refine blk_drewN ?_ _ | refine blk_drew ?_ | refine blk_alloc ?_ _)); exact BK155.out) hb); have n2_ := Aside0.mk (below_step (by repeat (first | (with_reducible first | exact HB.out | apply below_alloc | apply pw_below_drewN | apply below_drew1 | refine below_set ?_ GE155.out) | exact HB.out)) hb); clear BK155; clear HB; have HO159 := n0_; have BK155 := n1_; have HB := n2_; clear n0_ n1_ n2_; clear hb ho118; obtain ⟨Ao119, co119, eo119⟩ := Kd.R_slice HO159.out; subst eo119; have hcz120_0 : w117.cell? ⟨gb155, 0, none⟩ = some (.int .i64 a2_0) := (blk_cell BK155.out 0).trans rfl; have hcz120_1 : w117.cell? ⟨gb155, 1, none⟩ = some (.int .i64 a2_1) := (blk_cell BK155.out 1).trans rfl; have hcz120_2 : w117.cell? ⟨gb155, 2, none⟩ = some (.string a2_2) := (blk_cell BK155.out 2).trans rfl; have hfz120_0 := blk_frozen BK155.out 0; have hfz120_1 := blk_frozen BK155.out 1; have hfz120_2 := blk_frozen BK155.out 2) | ((with_reducible refine gate_callee (f := 12) rfl ?_); refine goesL_ (some 41) rfl rfl Try.func12 (by kernel_rfl) rfl #[.agg #[.int .i64 a0, .slice Ao119 y157.length co119, .slice none 0 0], .agg #[.int .i64 a2_0, .int .i64 a2_1, .string a2_2]] rfl (by (try simp only [List.map_toArray, List.map_cons, List.map_nil]); first | done | rfl | (simp only [List.length_drop, List.length_take]; rfl)) ?_; (refine (network_Send.calls kj3 a0 (fun k_ => some k_ = (.slice Ao119 y157.length co119 : Value).ownBlock) _ _ y157 _ _ ([] : List (S44)) a2_0 a2_1 a2_2 t160 t161 t164 t167 _ ?side1 ?side2 ?side3 A13.out).mono ?_); (case side1 => exact Kd.R_V (Kd.R_tight rfl (Kd.R_types (HO159.out) BK155.out (by decide)))); (case side2 => exact Kd.C_nil _ _); (case side3 => exact Nat.le_refl _); rintro e w121 ⟨v162, v165, rfl, ho0, ho1, hb⟩; refine ⟨_, rfl, ?_⟩; have n0_ := Aside0.mk (Kd.R_below (by (with_reducible repeat (first | apply Kd.R_alloc | apply Kd.R_drewN | apply Kd.R_drew)); exact HO159.out) hb); have n1_ := Aside0.mk (Kd.V_lower (Kd.V_mono (ok' := fun k_ => some k_ ≠ (v165 : Value).ownBlock ∧ k_ ≠ gb155) ho0 (fun k_ hk_ => ⟨hk_.2, Or.elim hk_.1 (fun hs_ => ((Kd.R_types (HO159.out) BK155.out (by decide)).1 k_ hs_.symm).2) (fun hn_ => (Kd.freshB (g := gb155) (o := .cells #[.int .i64 a2_0, .int .i64 a2_1, .string a2_2] 27 (0, 0)) (by (with_reducible repeat (first | refine blk_drewN ?_ _ | refine blk_drew ?_ | refine blk_alloc ?_ _)); exact BK155.out) k_ hn_))⟩)) (below_size (by repeat (first | (with_reducible first | exact HB.out | apply below_alloc | apply pw_below_drewN | apply below_drew1 | refine below_set ?_ GE155.out) | exact HB.out)))); have n2_ := Aside0.mk (Kd.R_lower (Kd.R_mono (ok' := fun k_ => True) ho1 (fun _ hk_ => trivial)) (below_size (by repeat (first | (with_reducible first | exact HB.out | apply below_alloc | apply pw_below_drewN | apply below_drew1 | refine below_set ?_ GE155.out) | exact HB.out)))); have n3_ := Aside0.mk (blk_below (g := gb155) (o := .cells #[.int .i64 a2_0, .int .i64 a2_1, .string a2_2] 27 (0, 0)) (by (with_reducible repeat (first | refine blk_drewN ?_ _ | refine blk_drew ?_ | refine blk_alloc ?_ _)); exact BK155.out) hb); have n4_ := Aside0.mk (below_step (by repeat (first | (with_reducible first | exact HB.out | apply below_alloc | apply pw_below_drewN | apply below_drew1 | refine below_set ?_ GE155.out) | exact HB.out)) hb); clear HO159; clear BK155; clear HB; have HO159 := n0_; have HO163 := n1_; have HO166 := n2_; have BK155 := n3_; have HB := n4_; clear n0_ n1_ n2_ n3_ n4_; (try clear hb); (try clear hb2); (try clear hk); (try clear hi); (try clear ho0); (try clear ho1)) | ((with_reducible refine gate_dst (N := 7) rfl ?_); (try (refine gate_guard (by rfl) ?_; dsimp only)); refine box_event ?hg (N := 7) ?hd (cs := #[.int .i64 0, .slice none 0 0, .slice none 0 0]) (t := 25) ?hr ?_; (case hd => rfl); (case hg => rfl); (case hr => first | (go_simp; done) | (go_simp; rfl)); intro gb168 hg w122 hbox hb; have n0_ := Aside0.mk (Kd.R_below (by (with_reducible repeat (first | apply Kd.R_alloc | apply Kd.R_drewN | apply Kd.R_drew)); exact HO159.out) hb); have n1_ := Aside0.mk (Kd.V_below (Kd.V_elderB (by (with_reducible repeat (first | apply Kd.V_alloc | apply Kd.V_drewN | apply Kd.V_drew)); exact HO163.out) gb168 (Nat.le_of_eq hg.symm)) hb); have n2_ := Aside0.mk (Kd.R_below (by (with_reducible repeat (first | apply Kd.R_alloc | apply Kd.R_drewN | apply Kd.R_drew)); exact HO166.out) hb); have n3_ := Aside0.mk (blk_below (g := gb155) (o := .cells #[.int .i64 a2_0, .int .i64 a2_1, .string a2_2] 27 (0, 0)) (by (with_reducible repeat (first | refine blk_drewN ?_ _ | refine blk_drew ?_ | refine blk_alloc ?_ _)); exact BK155.out) hb); have n4_ := Aside0.mk (below_step (by repeat (first | (with_reducible first | exact HB.out | apply below_alloc | apply pw_below_drewN | apply below_drew1 | refine below_set ?_ GE155.out) | exact HB.out)) hb); have n5_ := Aside0.mk (hbox); have n6_ := Aside0.mk ((by rw [hg]; exact (below_size (by repeat (first | (with_reducible first | exact HB.out | apply below_alloc | apply pw_below_drewN | apply below_drew1 | refine below_set ?_ GE155.out) | exact HB.out))) : w.heap.size ≤ gb168)); have n7_ := Aside0.mk ((by rw [hg]; exact (below_size (by repeat (first | (with_reducible first | exact HB.out | apply below_alloc | apply pw_below_drewN | apply below_drew1 | refine below_set ?_ GE155.out) | exact HB.out))) : w.heap.size ≤ gb168)); have n8_ := Aside0.mk ((by rw [hg]; exact Nat.ne_of_lt (blk_lt (g := gb155) (o := .cells #[.int .i64 a2_0, .int .i64 a2_1, .string a2_2] 27 (0, 0)) (by (with_reducible repeat (first | refine blk_drewN ?_ _ | refine blk_drew ?_ | refine blk_alloc ?_ _)); exact BK155.out)) : gb155 ≠ gb168)); have n9_ := Aside0.mk ((by rw [hg]; exact Nat.ne_of_gt (blk_lt (g := gb155) (o := .cells #[.int .i64 a2_0, .int .i64 a2_1, .string a2_2] 27 (0, 0)) (by (with_reducible repeat (first | refine blk_drewN ?_ _ | refine blk_drew ?_ | refine blk_alloc ?_ _)); exact BK155.out)) : gb168 ≠ gb155)); clear HO159; clear HO163; clear HO166; clear BK155; clear HB; have HO159 := n0_; have HO163 := n1_; have HO166 := n2_; have BK155 := n3_; have HB := n4_; have BK168 := n5_; have GW168 := n6_; have GE168 := n7_; have NB155_168 := n8_; have NB168_155 := n9_; clear n0_ n1_ n2_ n3_ n4_ n5_ n6_ n7_ n8_ n9_; clear hb hbox hg; have hnb123 := NB168_155.out; have hnc123 := NB155_168.out; have hcz124_0 : w122.cell? ⟨gb168, 0, none⟩ = some (.int .i64 0) := (blk_cell BK168.out 0).trans rfl; have hcz124_1 : w122.cell? ⟨gb168, 1, none⟩ = some (.slice none 0 0) := (blk_cell BK168.out 1).trans rfl; have hcz124_2 : w122.cell? ⟨gb168, 2, none⟩ = some (.slice none 0 0) := (blk_cell BK168.out 2).trans rfl; have hfz124_0 := blk_frozen BK168.out 0; have hfz124_1 := blk_frozen BK168.out 1; have hfz124_2 := blk_frozen BK168.out 2; obtain ⟨Ao125, co125, eo125⟩ := Kd.V_slice HO163.out; subst eo125; obtain ⟨Ao126, co126, eo126⟩ := Kd.R_slice HO166.out; subst eo126; have hcz127_0 : w122.cell? ⟨gb155, 0, none⟩ = some (.int .i64 a2_0) := (blk_cell BK155.out 0).trans rfl; have hcz127_1 : w122.cell? ⟨gb155, 1, none⟩ = some (.int .i64 a2_1) := (blk_cell BK155.out 1).trans rfl; have hcz127_2 : w122.cell? ⟨gb155, 2, none⟩ = some (.string a2_2) := (blk_cell BK155.out 2).trans rfl; have hfz127_0 := blk_frozen BK155.out 0; have hfz127_1 := blk_frozen BK155.out 1; have hfz127_2 := blk_frozen BK155.out 2) | (go_at_call 11; (with_reducible refine (lookoutlaw50_awake.calls kj3  t171 _ A116.out).mono ?_); rintro e w128 ⟨rfl, hb⟩; have n0_ := Aside0.mk (Kd.R_below (by (with_reducible repeat (first | apply Kd.R_alloc | apply Kd.R_drewN | apply Kd.R_drew)); exact (Kd.R_mono (Kd.R_far (p := ⟨gb168, 2, none⟩) (Kd.R_far (p := ⟨gb168, 1, none⟩) (Kd.R_far (p := ⟨gb168, 0, none⟩) (Kd.R_types HO159.out BK168.out (by decide)) (fun _ hk => hk.2) (.int .i64 t160)) (fun _ hk => hk.2) (.slice Ao125 t161.length co125)) (fun _ hk => hk.2) (.slice Ao126 t164.length co126)) (fun _ h_ => h_.1))) hb); have n1_ := Aside0.mk (Kd.V_below (by (with_reducible repeat (first | apply Kd.V_alloc | apply Kd.V_drewN | apply Kd.V_drew)); exact (Kd.V_mono (Kd.V_far (p := ⟨gb168, 2, none⟩) (Kd.V_far (p := ⟨gb168, 1, none⟩) (Kd.V_far (p := ⟨gb168, 0, none⟩) (Kd.V_mono HO163.out (fun k_ hk => (⟨hk, hk.2⟩ : _ ∧ k_ ≠ gb168))) (fun _ hk => hk.2) (.int .i64 t160)) (fun _ hk => hk.2) (.slice Ao125 t161.length co125)) (fun _ hk => hk.2) (.slice Ao126 t164.length co126)) (fun _ h_ => h_.1))) hb); have n2_ := Aside0.mk (Kd.R_below (by (with_reducible repeat (first | apply Kd.R_alloc | apply Kd.R_drewN | apply Kd.R_drew)); exact (Kd.R_mono (Kd.R_far (p := ⟨gb168, 2, none⟩) (Kd.R_far (p := ⟨gb168, 1, none⟩) (Kd.R_far (p := ⟨gb168, 0, none⟩) (Kd.R_types HO166.out BK168.out (by decide)) (fun _ hk => hk.2) (.int .i64 t160)) (fun _ hk => hk.2) (.slice Ao125 t161.length co125)) (fun _ hk => hk.2) (.slice Ao126 t164.length co126)) (fun _ h_ => h_.1))) hb); have n3_ := Aside0.mk (blk_below (g := gb155) (o := .cells #[.int .i64 a2_0, .int .i64 a2_1, .string a2_2] 27 (0, 0)) (by (with_reducible repeat (first | refine blk_drewN ?_ _ | refine blk_drew ?_ | refine blk_alloc ?_ _)); refine blk_far ?_ NB155_168.out _; (with_reducible repeat (first | refine blk_drewN ?_ _ | refine blk_drew ?_ | refine blk_alloc ?_ _)); refine blk_far ?_ NB155_168.out _; (with_reducible repeat (first | refine blk_drewN ?_ _ | refine blk_drew ?_ | refine blk_alloc ?_ _)); refine blk_far ?_ NB155_168.out _; (with_reducible repeat (first | refine blk_drewN ?_ _ | refine blk_drew ?_ | refine blk_alloc ?_ _)); exact BK155.out) hb); have n4_ := Aside0.mk (blk_below (g := gb168) (o := .cells #[.int .i64 t160, .slice Ao125 t161.length co125, .slice Ao126 t164.length co126] 25 (0, 0)) (by (with_reducible repeat (first | refine blk_drewN ?_ _ | refine blk_drew ?_ | refine blk_alloc ?_ _)); refine blk_put (cs := #[.int .i64 t160, .slice Ao125 t161.length co125, .slice none 0 0]) ?_ 2 _ rfl; (with_reducible repeat (first | refine blk_drewN ?_ _ | refine blk_drew ?_ | refine blk_alloc ?_ _)); refine blk_put (cs := #[.int .i64 t160, .slice none 0 0, .slice none 0 0]) ?_ 1 _ rfl; (with_reducible repeat (first | refine blk_drewN ?_ _ | refine blk_drew ?_ | refine blk_alloc ?_ _)); refine blk_put (cs := #[.int .i64 0, .slice none 0 0, .slice none 0 0]) ?_ 0 _ rfl; (with_reducible repeat (first | refine blk_drewN ?_ _ | refine blk_drew ?_ | refine blk_alloc ?_ _)); exact BK168.out) hb); have n5_ := Aside0.mk (below_step (by repeat (first | (with_reducible first | exact HB.out | apply below_alloc | apply pw_below_drewN | apply below_drew1 | refine below_set ?_ GE155.out | refine below_set ?_ GE168.out) | exact HB.out)) hb); clear HO159; clear HO163; clear HO166; clear BK155; clear BK168; clear HB; have HO159 := n0_; have HO163 := n1_; have HO166 := n2_; have BK155 := n3_; have BK168 := n4_; have HB := n5_; clear n0_ n1_ n2_ n3_ n4_ n5_; (try clear hb); (try clear hb2); (try clear hk); (try clear hi)))
                  go_ret
                  exact ⟨by first | rfl | (simp [errW_none, errW_some] <;> rfl) | (simp [*, errW_none, errW_some] <;> rfl), by repeat (first | (with_reducible first | exact HB.out | apply below_alloc | apply pw_below_drewN | apply below_drew1 | refine below_set ?_ GE155.out | refine below_set ?_ GE168.out) | exact HB.out)⟩
                · rw [if_neg c115] at H
                  have c115b0 : decide (a2_1 < (-1)) = false := decide_eq_false c115
                  clear c115
                  by_cases c129 : a2_1 > 15
                  · rw [if_pos c129] at H
                    have c129b0 : decide (15 < a2_1) = true := decide_eq_true c129
                    clear c129
                    replace H := Option.bind_eq_some_iff.mp H
                    obtain ⟨t172, A1300, H⟩ := H
                    replace H : (some t172) = some r := H
                    have A130 := Aside0.mk A1300
                    clear A1300
                    obtain rfl := Option.some.inj H
                    go_wp2_with (first | ((with_reducible refine gate_dst (N := 38) rfl ?_); (try (refine gate_guard (by rfl) ?_; dsimp only)); refine Kd.R_lit (Kd.int .i64) _ 3 ?hg (N := 38) ?hd (xs := ([a1] : List Int)) (inner := [.int .i64 a1]) (ok := fun _ => True) (okp := fun _ => True) ?hr ?hp (fun _ hk => hk) trivial (Below.refl _ _) (Nat.le_refl _) (by simp) ?_; (case hd => rfl); (case hg => rfl); (case hr => first | (go_simp; done) | (go_simp; rfl)); (case hp => exact (Reps.one (show Kd.M (Kd.int .i64) _ _ _ a1 [.int .i64 a1] from rfl) (Reps.none _ _))); intro v158 w131 ho132 hb hg_ hnew_; clear hg_ hnew_; (first | rw [← Ny157.out] at ho132 | (simp only [Int.reduceToNat] at ho132; rw [← Ny157.out] at ho132)); have n0_ := Aside0.mk (Kd.R_lower ho132 (below_size (by repeat (first | (with_reducible first | exact HB.out | apply below_alloc | apply pw_below_drewN | apply below_drew1 | refine below_set ?_ GE155.out) | exact HB.out)))); have n1_ := Aside0.mk (blk_below (g := gb155) (o := .cells #[.int .i64 a2_0, .int .i64 a2_1, .string a2_2] 27 (0, 0)) (by (with_reducible repeat (first | refine blk_drewN ?_ _ | refine blk_drew ?_ | refine blk_alloc ?_ _)); exact BK155.out) hb); have n2_ := Aside0.mk (below_step (by repeat (first | (with_reducible first | exact HB.out | apply below_alloc | apply pw_below_drewN | apply below_drew1 | refine below_set ?_ GE155.out) | exact HB.out)) hb); clear BK155; clear HB; have HO159 := n0_; have BK155 := n1_; have HB := n2_; clear n0_ n1_ n2_; clear hb ho132; obtain ⟨Ao133, co133, eo133⟩ := Kd.R_slice HO159.out; subst eo133; have hcz134_0 : w131.cell? ⟨gb155, 0, none⟩ = some (.int .i64 a2_0) := (blk_cell BK155.out 0).trans rfl; have hcz134_1 : w131.cell? ⟨gb155, 1, none⟩ = some (.int .i64 a2_1) := (blk_cell BK155.out 1).trans rfl; have hcz134_2 : w131.cell? ⟨gb155, 2, none⟩ = some (.string a2_2) := (blk_cell BK155.out 2).trans rfl; have hfz134_0 := blk_frozen BK155.out 0; have hfz134_1 := blk_frozen BK155.out 1; have hfz134_2 := blk_frozen BK155.out 2) | ((with_reducible refine gate_callee (f := 12) rfl ?_); refine goesL_ (some 41) rfl rfl Try.func12 (by kernel_rfl) rfl #[.agg #[.int .i64 a0, .slice Ao133 y157.length co133, .slice none 0 0], .agg #[.int .i64 a2_0, .int .i64 a2_1, .string a2_2]] rfl (by (try simp only [List.map_toArray, List.map_cons, List.map_nil]); first | done | rfl | (simp only [List.length_drop, List.length_take]; rfl)) ?_; (refine (network_Send.calls kj3 a0 (fun k_ => some k_ = (.slice Ao133 y157.length co133 : Value).ownBlock) _ _ y157 _ _ ([] : List (S44)) a2_0 a2_1 a2_2 t160 t161 t164 t167 _ ?side1 ?side2 ?side3 A13.out).mono ?_); (case side1 => exact Kd.R_V (Kd.R_tight rfl (Kd.R_types (HO159.out) BK155.out (by decide)))); (case side2 => exact Kd.C_nil _ _); (case side3 => exact Nat.le_refl _); rintro e w135 ⟨v162, v165, rfl, ho0, ho1, hb⟩; refine ⟨_, rfl, ?_⟩; have n0_ := Aside0.mk (Kd.R_below (by (with_reducible repeat (first | apply Kd.R_alloc | apply Kd.R_drewN | apply Kd.R_drew)); exact HO159.out) hb); have n1_ := Aside0.mk (Kd.V_lower (Kd.V_mono (ok' := fun k_ => some k_ ≠ (v165 : Value).ownBlock ∧ k_ ≠ gb155) ho0 (fun k_ hk_ => ⟨hk_.2, Or.elim hk_.1 (fun hs_ => ((Kd.R_types (HO159.out) BK155.out (by decide)).1 k_ hs_.symm).2) (fun hn_ => (Kd.freshB (g := gb155) (o := .cells #[.int .i64 a2_0, .int .i64 a2_1, .string a2_2] 27 (0, 0)) (by (with_reducible repeat (first | refine blk_drewN ?_ _ | refine blk_drew ?_ | refine blk_alloc ?_ _)); exact BK155.out) k_ hn_))⟩)) (below_size (by repeat (first | (with_reducible first | exact HB.out | apply below_alloc | apply pw_below_drewN | apply below_drew1 | refine below_set ?_ GE155.out) | exact HB.out)))); have n2_ := Aside0.mk (Kd.R_lower (Kd.R_mono (ok' := fun k_ => True) ho1 (fun _ hk_ => trivial)) (below_size (by repeat (first | (with_reducible first | exact HB.out | apply below_alloc | apply pw_below_drewN | apply below_drew1 | refine below_set ?_ GE155.out) | exact HB.out)))); have n3_ := Aside0.mk (blk_below (g := gb155) (o := .cells #[.int .i64 a2_0, .int .i64 a2_1, .string a2_2] 27 (0, 0)) (by (with_reducible repeat (first | refine blk_drewN ?_ _ | refine blk_drew ?_ | refine blk_alloc ?_ _)); exact BK155.out) hb); have n4_ := Aside0.mk (below_step (by repeat (first | (with_reducible first | exact HB.out | apply below_alloc | apply pw_below_drewN | apply below_drew1 | refine below_set ?_ GE155.out) | exact HB.out)) hb); clear HO159; clear BK155; clear HB; have HO159 := n0_; have HO163 := n1_; have HO166 := n2_; have BK155 := n3_; have HB := n4_; clear n0_ n1_ n2_ n3_ n4_; (try clear hb); (try clear hb2); (try clear hk); (try clear hi); (try clear ho0); (try clear ho1)) | ((with_reducible refine gate_dst (N := 7) rfl ?_); (try (refine gate_guard (by rfl) ?_; dsimp only)); refine box_event ?hg (N := 7) ?hd (cs := #[.int .i64 0, .slice none 0 0, .slice none 0 0]) (t := 25) ?hr ?_; (case hd => rfl); (case hg => rfl); (case hr => first | (go_simp; done) | (go_simp; rfl)); intro gb168 hg w136 hbox hb; have n0_ := Aside0.mk (Kd.R_below (by (with_reducible repeat (first | apply Kd.R_alloc | apply Kd.R_drewN | apply Kd.R_drew)); exact HO159.out) hb); have n1_ := Aside0.mk (Kd.V_below (Kd.V_elderB (by (with_reducible repeat (first | apply Kd.V_alloc | apply Kd.V_drewN | apply Kd.V_drew)); exact HO163.out) gb168 (Nat.le_of_eq hg.symm)) hb); have n2_ := Aside0.mk (Kd.R_below (by (with_reducible repeat (first | apply Kd.R_alloc | apply Kd.R_drewN | apply Kd.R_drew)); exact HO166.out) hb); have n3_ := Aside0.mk (blk_below (g := gb155) (o := .cells #[.int .i64 a2_0, .int .i64 a2_1, .string a2_2] 27 (0, 0)) (by (with_reducible repeat (first | refine blk_drewN ?_ _ | refine blk_drew ?_ | refine blk_alloc ?_ _)); exact BK155.out) hb); have n4_ := Aside0.mk (below_step (by repeat (first | (with_reducible first | exact HB.out | apply below_alloc | apply pw_below_drewN | apply below_drew1 | refine below_set ?_ GE155.out) | exact HB.out)) hb); have n5_ := Aside0.mk (hbox); have n6_ := Aside0.mk ((by rw [hg]; exact (below_size (by repeat (first | (with_reducible first | exact HB.out | apply below_alloc | apply pw_below_drewN | apply below_drew1 | refine below_set ?_ GE155.out) | exact HB.out))) : w.heap.size ≤ gb168)); have n7_ := Aside0.mk ((by rw [hg]; exact (below_size (by repeat (first | (with_reducible first | exact HB.out | apply below_alloc | apply pw_below_drewN | apply below_drew1 | refine below_set ?_ GE155.out) | exact HB.out))) : w.heap.size ≤ gb168)); have n8_ := Aside0.mk ((by rw [hg]; exact Nat.ne_of_lt (blk_lt (g := gb155) (o := .cells #[.int .i64 a2_0, .int .i64 a2_1, .string a2_2] 27 (0, 0)) (by (with_reducible repeat (first | refine blk_drewN ?_ _ | refine blk_drew ?_ | refine blk_alloc ?_ _)); exact BK155.out)) : gb155 ≠ gb168)); have n9_ := Aside0.mk ((by rw [hg]; exact Nat.ne_of_gt (blk_lt (g := gb155) (o := .cells #[.int .i64 a2_0, .int .i64 a2_1, .string a2_2] 27 (0, 0)) (by (with_reducible repeat (first | refine blk_drewN ?_ _ | refine blk_drew ?_ | refine blk_alloc ?_ _)); exact BK155.out)) : gb168 ≠ gb155)); clear HO159; clear HO163; clear HO166; clear BK155; clear HB; have HO159 := n0_; have HO163 := n1_; have HO166 := n2_; have BK155 := n3_; have HB := n4_; have BK168 := n5_; have GW168 := n6_; have GE168 := n7_; have NB155_168 := n8_; have NB168_155 := n9_; clear n0_ n1_ n2_ n3_ n4_ n5_ n6_ n7_ n8_ n9_; clear hb hbox hg; have hnb137 := NB168_155.out; have hnc137 := NB155_168.out; have hcz138_0 : w136.cell? ⟨gb168, 0, none⟩ = some (.int .i64 0) := (blk_cell BK168.out 0).trans rfl; have hcz138_1 : w136.cell? ⟨gb168, 1, none⟩ = some (.slice none 0 0) := (blk_cell BK168.out 1).trans rfl; have hcz138_2 : w136.cell? ⟨gb168, 2, none⟩ = some (.slice none 0 0) := (blk_cell BK168.out 2).trans rfl; have hfz138_0 := blk_frozen BK168.out 0; have hfz138_1 := blk_frozen BK168.out 1; have hfz138_2 := blk_frozen BK168.out 2; obtain ⟨Ao139, co139, eo139⟩ := Kd.V_slice HO163.out; subst eo139; obtain ⟨Ao140, co140, eo140⟩ := Kd.R_slice HO166.out; subst eo140; have hcz141_0 : w136.cell? ⟨gb155, 0, none⟩ = some (.int .i64 a2_0) := (blk_cell BK155.out 0).trans rfl; have hcz141_1 : w136.cell? ⟨gb155, 1, none⟩ = some (.int .i64 a2_1) := (blk_cell BK155.out 1).trans rfl; have hcz141_2 : w136.cell? ⟨gb155, 2, none⟩ = some (.string a2_2) := (blk_cell BK155.out 2).trans rfl; have hfz141_0 := blk_frozen BK155.out 0; have hfz141_1 := blk_frozen BK155.out 1; have hfz141_2 := blk_frozen BK155.out 2) | (go_at_call 11; (with_reducible refine (lookoutlaw50_awake.calls kj3  t172 _ A130.out).mono ?_); rintro e w142 ⟨rfl, hb⟩; have n0_ := Aside0.mk (Kd.R_below (by (with_reducible repeat (first | apply Kd.R_alloc | apply Kd.R_drewN | apply Kd.R_drew)); exact (Kd.R_mono (Kd.R_far (p := ⟨gb168, 2, none⟩) (Kd.R_far (p := ⟨gb168, 1, none⟩) (Kd.R_far (p := ⟨gb168, 0, none⟩) (Kd.R_types HO159.out BK168.out (by decide)) (fun _ hk => hk.2) (.int .i64 t160)) (fun _ hk => hk.2) (.slice Ao139 t161.length co139)) (fun _ hk => hk.2) (.slice Ao140 t164.length co140)) (fun _ h_ => h_.1))) hb); have n1_ := Aside0.mk (Kd.V_below (by (with_reducible repeat (first | apply Kd.V_alloc | apply Kd.V_drewN | apply Kd.V_drew)); exact (Kd.V_mono (Kd.V_far (p := ⟨gb168, 2, none⟩) (Kd.V_far (p := ⟨gb168, 1, none⟩) (Kd.V_far (p := ⟨gb168, 0, none⟩) (Kd.V_mono HO163.out (fun k_ hk => (⟨hk, hk.2⟩ : _ ∧ k_ ≠ gb168))) (fun _ hk => hk.2) (.int .i64 t160)) (fun _ hk => hk.2) (.slice Ao139 t161.length co139)) (fun _ hk => hk.2) (.slice Ao140 t164.length co140)) (fun _ h_ => h_.1))) hb); have n2_ := Aside0.mk (Kd.R_below (by (with_reducible repeat (first | apply Kd.R_alloc | apply Kd.R_drewN | apply Kd.R_drew)); exact (Kd.R_mono (Kd.R_far (p := ⟨gb168, 2, none⟩) (Kd.R_far (p := ⟨gb168, 1, none⟩) (Kd.R_far (p := ⟨gb168, 0, none⟩) (Kd.R_types HO166.out BK168.out (by decide)) (fun _ hk => hk.2) (.int .i64 t160)) (fun _ hk => hk.2) (.slice Ao139 t161.length co139)) (fun _ hk => hk.2) (.slice Ao140 t164.length co140)) (fun _ h_ => h_.1))) hb); have n3_ := Aside0.mk (blk_below (g := gb155) (o := .cells #[.int .i64 a2_0, .int .i64 a2_1, .string a2_2] 27 (0, 0)) (by (with_reducible repeat (first | refine blk_drewN ?_ _ | refine blk_drew ?_ | refine blk_alloc ?_ _)); refine blk_far ?_ NB155_168.out _; (with_reducible repeat (first | refine blk_drewN ?_ _ | refine blk_drew ?_ | refine blk_alloc ?_ _)); refine blk_far ?_ NB155_168.out _; (with_reducible repeat (first | refine blk_drewN ?_ _ | refine blk_drew ?_ | refine blk_alloc ?_ _)); refine blk_far ?_ NB155_168.out _; (with_reducible repeat (first | refine blk_drewN ?_ _ | refine blk_drew ?_ | refine blk_alloc ?_ _)); exact BK155.out) hb); have n4_ := Aside0.mk (blk_below (g := gb168) (o := .cells #[.int .i64 t160, .slice Ao139 t161.length co139, .slice Ao140 t164.length co140] 25 (0, 0)) (by (with_reducible repeat (first | refine blk_drewN ?_ _ | refine blk_drew ?_ | refine blk_alloc ?_ _)); refine blk_put (cs := #[.int .i64 t160, .slice Ao139 t161.length co139, .slice none 0 0]) ?_ 2 _ rfl; (with_reducible repeat (first | refine blk_drewN ?_ _ | refine blk_drew ?_ | refine blk_alloc ?_ _)); refine blk_put (cs := #[.int .i64 t160, .slice none 0 0, .slice none 0 0]) ?_ 1 _ rfl; (with_reducible repeat (first | refine blk_drewN ?_ _ | refine blk_drew ?_ | refine blk_alloc ?_ _)); refine blk_put (cs := #[.int .i64 0, .slice none 0 0, .slice none 0 0]) ?_ 0 _ rfl; (with_reducible repeat (first | refine blk_drewN ?_ _ | refine blk_drew ?_ | refine blk_alloc ?_ _)); exact BK168.out) hb); have n5_ := Aside0.mk (below_step (by repeat (first | (with_reducible first | exact HB.out | apply below_alloc | apply pw_below_drewN | apply below_drew1 | refine below_set ?_ GE155.out | refine below_set ?_ GE168.out) | exact HB.out)) hb); clear HO159; clear HO163; clear HO166; clear BK155; clear BK168; clear HB; have HO159 := n0_; have HO163 := n1_; have HO166 := n2_; have BK155 := n3_; have BK168 := n4_; have HB := n5_; clear n0_ n1_ n2_ n3_ n4_ n5_; (try clear hb); (try clear hb2); (try clear hk); (try clear hi)))
                    go_ret
                    exact ⟨by first | rfl | (simp [errW_none, errW_some] <;> rfl) | (simp [*, errW_none, errW_some] <;> rfl), by repeat (first | (with_reducible first | exact HB.out | apply below_alloc | apply pw_below_drewN | apply below_drew1 | refine below_set ?_ GE155.out | refine below_set ?_ GE168.out) | exact HB.out)⟩
                  · rw [if_neg c129] at H
                    exact absurd H (by simp)
          · rw [if_neg c86] at H
            exact absurd H (by simp)

def lookoutlaw50_NetworkDelivers.WT27 (x : S27) : Prop := (Lit.int .i64 x.f0).wf = true ∧ (Lit.int .i64 x.f1).wf = true ∧ x.f2.size ≤ 140737488351232
/-- THE ONE PURE STATEMENT of lookoutlaw50_NetworkDelivers. -/
def lookoutlaw50_NetworkDelivers.Pure : Prop := ∀ (a0 : Int) (a1 : Int) (a2_0 : Int) (a2_1 : Int) (a2_2 : ByteArray), (Lit.int .i64 a0).wf = true → (Lit.int .i64 a1).wf = true → (Lit.int .i64 a2_0).wf = true → (Lit.int .i64 a2_1).wf = true → a2_2.size ≤ 140737488351232 → ∃ k, lookoutlaw50_NetworkDelivers.f k a0 a1 a2_0 a2_1 a2_2 = some true

end Go.Proofs.Ytkfplnbofgiknaa.P
