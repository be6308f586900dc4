/- Printed by a program of this session: functions of the law's Go code as Lean functions, and that the Go code computes them. No condition beyond those in the statements. -/
import Derived.Test.YtkfplnbofgiknaaPx0
import Derived.Test.YtkfplnbofgiknaaPx2
import Derived.Test.YtkfplnbofgiknaaPx7
import Derived.Test.YtkfplnbofgiknaaPx9
import Derived.Test.YtkfplnbofgiknaaPx10
import Derived.Test.YtkfplnbofgiknaaPx11
namespace Go.Proofs.Ytkfplnbofgiknaa.P
open Go.RowKit Go.Proofs.YtkfplnbofgiknaaW.PrintWords Go.Proofs.YtkfplnbofgiknaaW.PrintLast Go.Proofs.YtkfplnbofgiknaaW.PrintMore Go.Proofs.Ytkfplnbofgiknaa.Hand Go.Proofs.Ytkfplnbofgiknaa.A
attribute [local go_sem] max2_int min2_int max_two min_two max_three min_three max_four min_four   -- for this text's walks alone
set_option linter.unusedVariables false
set_option linter.unusedSimpArgs false

/-! ### lookoutlaw50_NetworkEnds: function 6 -/
mutual
def lookoutlaw50_NetworkEnds.j0 : Nat → Bool → Int → List Int → List (S44) → Option (Bool)
  | 0, _, _, _, _ => none
  | k + 1, x22, x161000, x161001, x161002 => if x22 = true then ((lookoutlaw50_awake.f k).bind fun t163 => (some t163)) else ((lookoutlaw50_steps.f k x161000 x161001 x161002 8).bind fun bt164 => (if bt164.2.2.2.2 = true then ((network_Idle.f bt164.2.1 bt164.2.2.1 bt164.2.2.2.1).bind fun t176 => (lookoutlaw50_NetworkEnds.j1 k bt164.1 (!t176) x161000 x161001 x161002)) else (lookoutlaw50_NetworkEnds.j1 k bt164.1 true x161000 x161001 x161002)))
def lookoutlaw50_NetworkEnds.j1 : Nat → List (List (S27)) → Bool → Int → List Int → List (S44) → Option (Bool)
  | 0, _, _, _, _, _ => none
  | k + 1, x3, x36, x161000, x161001, x161002 => if x36 = true then (none) else (lookoutlaw50_NetworkEnds.l0 k x3 (x3.length : Int) 0 x161000 x161001 x161002)
def lookoutlaw50_NetworkEnds.l0 : Nat → List (List (S27)) → Int → Int → Int → List Int → List (S44) → Option (Bool)
  | 0, _, _, _, _, _, _ => none
  | k + 1, x37, x38, x39, x161000, x161001, x161002 => if x39 < x38 then (if 0 ≤ x39 then (if x39 < (x37.length : Int) then (lookoutlaw50_NetworkEnds.l1 k x39 (rd_L7 x37 x39) ([] : List (S27)) x37 x38 x39 x161002 (x161002.length : Int) 0 x161000 x161001 x161002) else (none)) else (none)) else ((lookoutlaw50_awake.f k).bind fun t177 => (some t177))
def lookoutlaw50_NetworkEnds.l1 : Nat → Int → List (S27) → List (S27) → List (List (S27)) → Int → Int → List (S44) → Int → Int → Int → List Int → List (S44) → Option (Bool)
  | 0, _, _, _, _, _, _, _, _, _, _, _, _ => none
  | k + 1, x6, x7, x8, x37, x38, x39, x45, x46, x47, x161000, x161001, x161002 => if x47 < x46 then (if 0 ≤ x47 then (if x47 < (x45.length : Int) then (if ((rd_T44 x45 x47).f0) = (wrap64 ((wrap64 (x161000 + x6)) + 1)) then (if x8.length < 4398046511104 then (lookoutlaw50_NetworkEnds.l1 k x6 x7 (x8 ++ [(⟨(rd_T44 x45 x47).f1.f0, (rd_T44 x45 x47).f1.f1, (rd_T44 x45 x47).f1.f2⟩ : S27)]) x37 x38 x39 x45 x46 (wrap64 (x47 + 1)) x161000 x161001 x161002) else (none)) else (lookoutlaw50_NetworkEnds.l1 k x6 x7 x8 x37 x38 x39 x45 x46 (wrap64 (x47 + 1)) x161000 x161001 x161002)) else (none)) else (none)) else ((lookoutref50_SamePackets.f k x7 x8).bind fun t184 => (if t184 = true then (lookoutlaw50_NetworkEnds.l0 k x37 x38 (wrap64 (x39 + 1)) x161000 x161001 x161002) else (none)))
end
def lookoutlaw50_NetworkEnds.f (k : Nat) (a0_0 : Int) (l0_1 : List Int) (l0_2 : List (S44)) : Option (Bool) := (lookoutref50_Great.f k a0_0 l0_1 l0_2).bind fun t161 => (if t161 = true then (lookoutlaw50_NetworkEnds.j0 k true a0_0 l0_1 l0_2) else ((network_Check.f k a0_0 l0_1 l0_2).bind fun t162 => (if t162 = 0 then (lookoutlaw50_NetworkEnds.j0 k (decide (a0_0 > 1152921504606846968)) a0_0 l0_1 l0_2) else (lookoutlaw50_NetworkEnds.j0 k true a0_0 l0_1 l0_2))))
theorem lookoutlaw50_NetworkEnds.mono_l : ∀ k, (∀ y0 y1 y2 y3, LeO (lookoutlaw50_NetworkEnds.j0 k y0 y1 y2 y3) (lookoutlaw50_NetworkEnds.j0 (k + 1) y0 y1 y2 y3)) ∧ (∀ y0 y1 y2 y3 y4, LeO (lookoutlaw50_NetworkEnds.j1 k y0 y1 y2 y3 y4) (lookoutlaw50_NetworkEnds.j1 (k + 1) y0 y1 y2 y3 y4)) ∧ (∀ y0 y1 y2 y3 y4 y5, LeO (lookoutlaw50_NetworkEnds.l0 k y0 y1 y2 y3 y4 y5) (lookoutlaw50_NetworkEnds.l0 (k + 1) y0 y1 y2 y3 y4 y5)) ∧ (∀ y0 y1 y2 y3 y4 y5 y6 y7 y8 y9 y10 y11, LeO (lookoutlaw50_NetworkEnds.l1 k y0 y1 y2 y3 y4 y5 y6 y7 y8 y9 y10 y11) (lookoutlaw50_NetworkEnds.l1 (k + 1) y0 y1 y2 y3 y4 y5 y6 y7 y8 y9 y10 y11))
  | 0 => ⟨fun _ _ _ _ r h => by simp [lookoutlaw50_NetworkEnds.j0] at h, fun _ _ _ _ _ r h => by simp [lookoutlaw50_NetworkEnds.j1] at h, fun _ _ _ _ _ _ r h => by simp [lookoutlaw50_NetworkEnds.l0] at h, fun _ _ _ _ _ _ _ _ _ _ _ _ r h => by simp [lookoutlaw50_NetworkEnds.l1] at h⟩
  | k + 1 => by
    obtain ⟨ih0, ih1, ih2, ih3⟩ := lookoutlaw50_NetworkEnds.mono_l k
    refine ⟨?_, ?_, ?_, ?_⟩
    · intro y0 y1 y2 y3
      unfold lookoutlaw50_NetworkEnds.j0
      repeat' first
      | (with_reducible exact ih0 _ _ _ _)
      | (with_reducible exact ih1 _ _ _ _ _)
      | (with_reducible exact ih2 _ _ _ _ _ _)
      | (with_reducible exact ih3 _ _ _ _ _ _ _ _ _ _ _ _)
      | (with_reducible exact lookoutlaw50_awake.mono _)
      | (with_reducible exact lookoutlaw50_steps.mono _ _ _ _ _)
      | (with_reducible exact lookoutref50_Great.mono _ _ _ _)
      | (with_reducible exact lookoutref50_SamePackets.mono _ _ _)
      | (with_reducible exact network_Check.mono _ _ _ _)
      | (with_reducible exact LeO.refl _)
      | (with_reducible exact LeO.none _)
      | (with_reducible refine LeO.ite ?_ ?_)
      | (with_reducible refine LeO.bind ?_ (fun _ => ?_))
      | exact ih0 _ _ _ _
      | exact ih1 _ _ _ _ _
      | exact ih2 _ _ _ _ _ _
      | exact ih3 _ _ _ _ _ _ _ _ _ _ _ _
      | exact lookoutlaw50_awake.mono _
      | exact lookoutlaw50_steps.mono _ _ _ _ _
      | exact lookoutref50_Great.mono _ _ _ _
      | exact lookoutref50_SamePackets.mono _ _ _
      | exact network_Check.mono _ _ _ _
      | exact LeO.none _
      | refine LeO.ite ?_ ?_
      | refine LeO.bind ?_ (fun _ => ?_)
    · intro y0 y1 y2 y3 y4
      unfold lookoutlaw50_NetworkEnds.j1
      repeat' first
      | (with_reducible exact ih0 _ _ _ _)
      | (with_reducible exact ih1 _ _ _ _ _)
      | (with_reducible exact ih2 _ _ _ _ _ _)
      | (with_reducible exact ih3 _ _ _ _ _ _ _ _ _ _ _ _)
      | (with_reducible exact lookoutlaw50_awake.mono _)
      | (with_reducible exact lookoutlaw50_steps.mono _ _ _ _ _)
      | (with_reducible exact lookoutref50_Great.mono _ _ _ _)
      | (with_reducible exact lookoutref50_SamePackets.mono _ _ _)
      | (with_reducible exact network_Check.mono _ _ _ _)
      | (with_reducible exact LeO.refl _)
      | (with_reducible exact LeO.none _)
      | (with_reducible refine LeO.ite ?_ ?_)
      | (with_reducible refine LeO.bind ?_ (fun _ => ?_))
      | exact ih0 _ _ _ _
      | exact ih1 _ _ _ _ _
      | exact ih2 _ _ _ _ _ _
      | exact ih3 _ _ _ _ _ _ _ _ _ _ _ _
      | exact lookoutlaw50_awake.mono _
      | exact lookoutlaw50_steps.mono _ _ _ _ _
      | exact lookoutref50_Great.mono _ _ _ _
      | exact lookoutref50_SamePackets.mono _ _ _
      | exact network_Check.mono _ _ _ _
      | exact LeO.none _
      | refine LeO.ite ?_ ?_
      | refine LeO.bind ?_ (fun _ => ?_)
    · intro y0 y1 y2 y3 y4 y5
      unfold lookoutlaw50_NetworkEnds.l0
      repeat' first
      | (with_reducible exact ih0 _ _ _ _)
      | (with_reducible exact ih1 _ _ _ _ _)
      | (with_reducible exact ih2 _ _ _ _ _ _)
      | (with_reducible exact ih3 _ _ _ _ _ _ _ _ _ _ _ _)
      | (with_reducible exact lookoutlaw50_awake.mono _)
      | (with_reducible exact lookoutlaw50_steps.mono _ _ _ _ _)
      | (with_reducible exact lookoutref50_Great.mono _ _ _ _)
      | (with_reducible exact lookoutref50_SamePackets.mono _ _ _)
      | (with_reducible exact network_Check.mono _ _ _ _)
      | (with_reducible exact LeO.refl _)
      | (with_reducible exact LeO.none _)
      | (with_reducible refine LeO.ite ?_ ?_)
      | (with_reducible refine LeO.bind ?_ (fun _ => ?_))
      | exact ih0 _ _ _ _
      | exact ih1 _ _ _ _ _
      | exact ih2 _ _ _ _ _ _
      | exact ih3 _ _ _ _ _ _ _ _ _ _ _ _
      | exact lookoutlaw50_awake.mono _
      | exact lookoutlaw50_steps.mono _ _ _ _ _
      | exact lookoutref50_Great.mono _ _ _ _
      | exact lookoutref50_SamePackets.mono _ _ _
      | exact network_Check.mono _ _ _ _
      | exact LeO.none _
      | refine LeO.ite ?_ ?_
      | refine LeO.bind ?_ (fun _ => ?_)
    · intro y0 y1 y2 y3 y4 y5 y6 y7 y8 y9 y10 y11
      unfold lookoutlaw50_NetworkEnds.l1
      repeat' first
      | (with_reducible exact ih0 _ _ _ _)
      | (with_reducible exact ih1 _ _ _ _ _)
      | (with_reducible exact ih2 _ _ _ _ _ _)
      | (with_reducible exact ih3 _ _ _ _ _ _ _ _ _ _ _ _)
      | (with_reducible exact lookoutlaw50_awake.mono _)
      | (with_reducible exact lookoutlaw50_steps.mono _ _ _ _ _)
      | (with_reducible exact lookoutref50_Great.mono _ _ _ _)
      | (with_reducible exact lookoutref50_SamePackets.mono _ _ _)
      | (with_reducible exact network_Check.mono _ _ _ _)
      | (with_reducible exact LeO.refl _)
      | (with_reducible exact LeO.none _)
      | (with_reducible refine LeO.ite ?_ ?_)
      | (with_reducible refine LeO.bind ?_ (fun _ => ?_))
      | exact ih0 _ _ _ _
      | exact ih1 _ _ _ _ _
      | exact ih2 _ _ _ _ _ _
      | exact ih3 _ _ _ _ _ _ _ _ _ _ _ _
      | exact lookoutlaw50_awake.mono _
      | exact lookoutlaw50_steps.mono _ _ _ _ _
      | exact lookoutref50_Great.mono _ _ _ _
      | exact lookoutref50_SamePackets.mono _ _ _
      | exact network_Check.mono _ _ _ _
      | exact LeO.none _
      | refine LeO.ite ?_ ?_
      | refine LeO.bind ?_ (fun _ => ?_)
theorem lookoutlaw50_NetworkEnds.mono : ∀ a0 a1 a2 k, LeO (lookoutlaw50_NetworkEnds.f k a0 a1 a2) (lookoutlaw50_NetworkEnds.f (k + 1) a0 a1 a2) := by
  intro a0 a1 a2 k
  obtain ⟨ih0, ih1, ih2, ih3⟩ := lookoutlaw50_NetworkEnds.mono_l k
  unfold lookoutlaw50_NetworkEnds.f
  repeat' first
      | (with_reducible exact ih0 _ _ _ _)
      | (with_reducible exact ih1 _ _ _ _ _)
      | (with_reducible exact ih2 _ _ _ _ _ _)
      | (with_reducible exact ih3 _ _ _ _ _ _ _ _ _ _ _ _)
      | (with_reducible exact lookoutlaw50_awake.mono _)
      | (with_reducible exact lookoutlaw50_steps.mono _ _ _ _ _)
      | (with_reducible exact lookoutref50_Great.mono _ _ _ _)
      | (with_reducible exact lookoutref50_SamePackets.mono _ _ _)
      | (with_reducible exact network_Check.mono _ _ _ _)
      | (with_reducible exact LeO.refl _)
      | (with_reducible exact LeO.none _)
      | (with_reducible refine LeO.ite ?_ ?_)
      | (with_reducible refine LeO.bind ?_ (fun _ => ?_))
      | exact ih0 _ _ _ _
      | exact ih1 _ _ _ _ _
      | exact ih2 _ _ _ _ _ _
      | exact ih3 _ _ _ _ _ _ _ _ _ _ _ _
      | exact lookoutlaw50_awake.mono _
      | exact lookoutlaw50_steps.mono _ _ _ _ _
      | exact lookoutref50_Great.mono _ _ _ _
      | exact lookoutref50_SamePackets.mono _ _ _
      | exact network_Check.mono _ _ _ _
      | exact LeO.none _
      | refine LeO.ite ?_ ?_
      | refine LeO.bind ?_ (fun _ => ?_)
set_option maxHeartbeats 8000000 in
set_option maxRecDepth 100000 in
theorem lookoutlaw50_NetworkEnds.calls (k : Nat) (a0_0 : Int) (A0_1 : Option Addr) (c0_1 : Nat) (l0_1 : List Int) (A0_2 : Option Addr) (c0_2 : Nat) (l0_2 : List (S44)) (r : Bool) (w : World) (hr0_1 : Kd.C (Kd.int .i64) w A0_1 l0_1.length l0_1) (hc0_1 : l0_1.length ≤ c0_1) (hr0_2 : Kd.C k44 w A0_2 l0_2.length l0_2) (hc0_2 : l0_2.length ≤ c0_2) (h : lookoutlaw50_NetworkEnds.f k a0_0 l0_1 l0_2 = some r) :
    Calls Try.prog 6 #[.agg #[.int .i64 a0_0, .slice A0_1 l0_1.length c0_1, .slice A0_2 l0_2.length c0_2]] w fun e w' => e = .returned (.bool r) ∧ Below w.heap.size w w' := by
  have hu25 := Try.underlying25
  have hu44 := Try.underlying44
  have hu27 := Try.underlying27
  have HR0_1 := Aside0.mk hr0_1
  have HC0_1 := Aside0.mk hc0_1
  clear hr0_1 hc0_1
  have HR0_2 := Aside0.mk hr0_2
  have HC0_2 := Aside0.mk hc0_2
  clear hr0_2 hc0_2
  have HB := Aside0.mk (Below.refl w.heap.size w)
  have H : ((lookoutref50_Great.f k a0_0 l0_1 l0_2).bind fun t161 => (if t161 = true then (lookoutlaw50_NetworkEnds.j0 k true a0_0 l0_1 l0_2) else ((network_Check.f k a0_0 l0_1 l0_2).bind fun t162 => (if t162 = 0 then (lookoutlaw50_NetworkEnds.j0 k (decide (a0_0 > 1152921504606846968)) a0_0 l0_1 l0_2) else (lookoutlaw50_NetworkEnds.j0 k true a0_0 l0_1 l0_2))))) = some r := h
  clear h
  have HC2 := Aside0.mk H
  clear H
  go_enter Try.func6, Try.ntmps6
  go_upto_region 1 with (first | ((with_reducible refine gate_dst (N := 1) rfl ?_); refine box_event ?hg (N := 1) ?hd (cs := #[.int .i64 a0_0, .slice A0_1 l0_1.length c0_1, .slice A0_2 l0_2.length c0_2]) (t := 25) ?hr ?_; (case hd => rfl); (case hg => rfl); (case hr => first | (go_simp; done) | (go_simp; rfl)); intro gb160 hg w3 hbox hb; have n0_ := Aside0.mk (below_step (by repeat (first | (with_reducible first | exact HB.out | apply below_alloc | apply pw_below_drewN | apply below_drew1) | exact HB.out)) hb); have n1_ := Aside0.mk (hbox); have n2_ := Aside0.mk ((by rw [hg]; exact (below_size (by repeat (first | (with_reducible first | exact HB.out | apply below_alloc | apply pw_below_drewN | apply below_drew1) | exact HB.out))) : w.heap.size ≤ gb160)); have n3_ := Aside0.mk ((by rw [hg]; exact (below_size (by repeat (first | (with_reducible first | exact HB.out | apply below_alloc | apply pw_below_drewN | apply below_drew1) | exact HB.out))) : w.heap.size ≤ gb160)); clear HB; have HB := n0_; have BK160 := n1_; have GW160 := n2_; have GE160 := n3_; clear n0_ n1_ n2_ n3_; clear hb hbox hg))
  (try simp only [Act.put, List.setIfInBounds_toArray, List.set_cons_zero, List.set_cons_succ])
  go_cut [22] (fun v22 wc => ∃ (kq : Nat) (x22_1 : Bool), v22 = .bool x22_1 ∧ Aside0 (lookoutlaw50_NetworkEnds.j0 kq x22_1 a0_0 l0_1 l0_2 = some r) ∧ Aside0 (kq ≤ k) ∧ Aside0 (wc.heap[gb160]? = some (.cells #[.int .i64 a0_0, (.slice A0_1 l0_1.length c0_1), (.slice A0_2 l0_2.length c0_2)] 25 (0, 0))) ∧ Aside0 (Below w.heap.size w wc))
  case first =>
    have H := HC2.out
    clear HC2
    replace H := Option.bind_eq_some_iff.mp H
    obtain ⟨t161, A40, H⟩ := H
    replace H : (if t161 = true then (lookoutlaw50_NetworkEnds.j0 k true a0_0 l0_1 l0_2) else ((network_Check.f k a0_0 l0_1 l0_2).bind fun t162 => (if t162 = 0 then (lookoutlaw50_NetworkEnds.j0 k (decide (a0_0 > 1152921504606846968)) a0_0 l0_1 l0_2) else (lookoutlaw50_NetworkEnds.j0 k true a0_0 l0_1 l0_2)))) = some r := H
    have A4 := Aside0.mk A40
    clear A40
    by_cases c5 : t161 = true
    · subst c5
      have H1 : (lookoutlaw50_NetworkEnds.j0 k true a0_0 l0_1 l0_2) = some r := by rw [if_pos rfl] at H; exact H
      clear H
      have H := H1
      clear H1
      have H' := Aside0.mk H
      clear H
      have hcz6_0 : w3.cell? ⟨gb160, 0, none⟩ = some (.int .i64 a0_0) := (blk_cell BK160.out 0).trans rfl
      have hcz6_1 : w3.cell? ⟨gb160, 1, none⟩ = some (.slice A0_1 l0_1.length c0_1) := (blk_cell BK160.out 1).trans rfl
      have hcz6_2 : w3.cell? ⟨gb160, 2, none⟩ = some (.slice A0_2 l0_2.length c0_2) := (blk_cell BK160.out 2).trans rfl
      have hfz6_0 := blk_frozen BK160.out 0
      have hfz6_1 := blk_frozen BK160.out 1
      have hfz6_2 := blk_frozen BK160.out 2
      go_wp2_with (first | ((with_reducible refine gate_callee (f := 10) rfl ?_); refine goesL_ (some 12) rfl rfl Try.func10 (by kernel_rfl) rfl #[.agg #[.int .i64 a0_0, .slice A0_1 l0_1.length c0_1, .slice A0_2 l0_2.length c0_2]] rfl (by (try simp only [List.map_toArray, List.map_cons, List.map_nil]); first | done | rfl | (simp only [List.length_drop, List.length_take]; rfl)) ?_; (with_reducible refine (lookoutref50_Great.calls k a0_0 _ _ l0_1 _ _ l0_2 true _ ?side1 ?side2 ?side3 ?side4 A4.out).mono ?_); (case side1 => repeat (first | exact (Kd.C_below HR0_1.out HB.out) | (with_reducible refine Kd.C_alloc ?_ _) | (with_reducible refine Kd.C_drewN ?_ _) | (with_reducible refine Kd.C_drew ?_))); (case side2 => exact HC0_1.out); (case side3 => repeat (first | exact (Kd.C_below HR0_2.out HB.out) | (with_reducible refine Kd.C_alloc ?_ _) | (with_reducible refine Kd.C_drewN ?_ _) | (with_reducible refine Kd.C_drew ?_))); (case side4 => exact HC0_2.out); rintro e w7 ⟨rfl, hb⟩; refine ⟨_, rfl, ?_⟩; have n0_ := Aside0.mk (blk_below (g := gb160) (o := .cells #[.int .i64 a0_0, .slice A0_1 l0_1.length c0_1, .slice A0_2 l0_2.length c0_2] 25 (0, 0)) (by (with_reducible repeat (first | refine blk_drewN ?_ _ | refine blk_drew ?_ | refine blk_alloc ?_ _)); exact BK160.out) hb); have n1_ := Aside0.mk (below_step (by repeat (first | (with_reducible first | exact HB.out | apply below_alloc | apply pw_below_drewN | apply below_drew1 | refine below_set ?_ GE160.out) | exact HB.out)) hb); clear BK160; clear HB; have BK160 := n0_; have HB := n1_; clear n0_ n1_; (try clear hb); (try clear hb2); (try clear hk); (try clear hi)))
      go_meet
      case rel => exact ⟨_, (true), (by first | rfl | (simp; done) | (simp [*]; done)), H', ⟨by first | omega | exact Nat.le_refl _⟩, ⟨by (with_reducible repeat (first | refine blk_drewN ?_ _ | refine blk_drew ?_ | refine blk_alloc ?_ _)); exact BK160.out⟩, ⟨by repeat (first | (with_reducible first | exact HB.out | apply below_alloc | apply pw_below_drewN | apply below_drew1 | refine below_set ?_ GE160.out) | exact HB.out)⟩⟩
    · replace c5 := Bool.eq_false_iff.mpr c5
      subst c5
      have H1 : ((network_Check.f k a0_0 l0_1 l0_2).bind fun t162 => (if t162 = 0 then (lookoutlaw50_NetworkEnds.j0 k (decide (a0_0 > 1152921504606846968)) a0_0 l0_1 l0_2) else (lookoutlaw50_NetworkEnds.j0 k true a0_0 l0_1 l0_2))) = some r := by rw [if_neg (show ¬ (false = true) by decide)] at H; exact H
      clear H
      have H := H1
      clear H1
      replace H := Option.bind_eq_some_iff.mp H
      obtain ⟨t162, A80, H⟩ := H
      replace H : (if t162 = 0 then (lookoutlaw50_NetworkEnds.j0 k (decide (a0_0 > 1152921504606846968)) a0_0 l0_1 l0_2) else (lookoutlaw50_NetworkEnds.j0 k true a0_0 l0_1 l0_2)) = some r := H
      have A8 := Aside0.mk A80
      clear A80
      by_cases c9 : t162 = 0
      · rw [if_pos c9] at H
        have c9b0 : (t162 == 0) = true := beq_iff_eq.mpr c9
        have c9b1 : (t162 != 0) = false := bne_eq_false_iff_eq.mpr c9
        clear c9
        (first | rw [c9b0] | (simp only [i64_w, i32_w]; rw [c9b0]) | rw [c9b1] | (simp only [i64_w, i32_w]; rw [c9b1]) | skip)
        have H' := Aside0.mk H
        clear H
        have hcz10_0 : w3.cell? ⟨gb160, 0, none⟩ = some (.int .i64 a0_0) := (blk_cell BK160.out 0).trans rfl
        have hcz10_1 : w3.cell? ⟨gb160, 1, none⟩ = some (.slice A0_1 l0_1.length c0_1) := (blk_cell BK160.out 1).trans rfl
        have hcz10_2 : w3.cell? ⟨gb160, 2, none⟩ = some (.slice A0_2 l0_2.length c0_2) := (blk_cell BK160.out 2).trans rfl
        have hfz10_0 := blk_frozen BK160.out 0
        have hfz10_1 := blk_frozen BK160.out 1
        have hfz10_2 := blk_frozen BK160.out 2
        go_wp2_with (first | ((with_reducible refine gate_callee (f := 10) rfl ?_); refine goesL_ (some 12) rfl rfl Try.func10 (by kernel_rfl) rfl #[.agg #[.int .i64 a0_0, .slice A0_1 l0_1.length c0_1, .slice A0_2 l0_2.length c0_2]] rfl (by (try simp only [List.map_toArray, List.map_cons, List.map_nil]); first | done | rfl | (simp only [List.length_drop, List.length_take]; rfl)) ?_; (with_reducible refine (lookoutref50_Great.calls k a0_0 _ _ l0_1 _ _ l0_2 false _ ?side1 ?side2 ?side3 ?side4 A4.out).mono ?_); (case side1 => repeat (first | exact (Kd.C_below HR0_1.out HB.out) | (with_reducible refine Kd.C_alloc ?_ _) | (with_reducible refine Kd.C_drewN ?_ _) | (with_reducible refine Kd.C_drew ?_))); (case side2 => exact HC0_1.out); (case side3 => repeat (first | exact (Kd.C_below HR0_2.out HB.out) | (with_reducible refine Kd.C_alloc ?_ _) | (with_reducible refine Kd.C_drewN ?_ _) | (with_reducible refine Kd.C_drew ?_))); (case side4 => exact HC0_2.out); rintro e w11 ⟨rfl, hb⟩; refine ⟨_, rfl, ?_⟩; have n0_ := Aside0.mk (blk_below (g := gb160) (o := .cells #[.int .i64 a0_0, .slice A0_1 l0_1.length c0_1, .slice A0_2 l0_2.length c0_2] 25 (0, 0)) (by (with_reducible repeat (first | refine blk_drewN ?_ _ | refine blk_drew ?_ | refine blk_alloc ?_ _)); exact BK160.out) hb); have n1_ := Aside0.mk (below_step (by repeat (first | (with_reducible first | exact HB.out | apply below_alloc | apply pw_below_drewN | apply below_drew1 | refine below_set ?_ GE160.out) | exact HB.out)) hb); clear BK160; clear HB; have BK160 := n0_; have HB := n1_; clear n0_ n1_; (try clear hb); (try clear hb2); (try clear hk); (try clear hi); have hcz12_0 : w11.cell? ⟨gb160, 0, none⟩ = some (.int .i64 a0_0) := (blk_cell BK160.out 0).trans rfl; have hcz12_1 : w11.cell? ⟨gb160, 1, none⟩ = some (.slice A0_1 l0_1.length c0_1) := (blk_cell BK160.out 1).trans rfl; have hcz12_2 : w11.cell? ⟨gb160, 2, none⟩ = some (.slice A0_2 l0_2.length c0_2) := (blk_cell BK160.out 2).trans rfl; have hfz12_0 := blk_frozen BK160.out 0; have hfz12_1 := blk_frozen BK160.out 1; have hfz12_2 := blk_frozen BK160.out 2) | (go_at_call 15; (with_reducible refine (network_Check.calls k a0_0 _ _ l0_1 _ _ l0_2 t162 _ ?side1 ?side2 ?side3 ?side4 A8.out).mono ?_); (case side1 => repeat (first | exact (Kd.C_below HR0_1.out HB.out) | (with_reducible refine Kd.C_alloc ?_ _) | (with_reducible refine Kd.C_drewN ?_ _) | (with_reducible refine Kd.C_drew ?_))); (case side2 => exact HC0_1.out); (case side3 => repeat (first | exact (Kd.C_below HR0_2.out HB.out) | (with_reducible refine Kd.C_alloc ?_ _) | (with_reducible refine Kd.C_drewN ?_ _) | (with_reducible refine Kd.C_drew ?_))); (case side4 => exact HC0_2.out); rintro e w13 ⟨rfl, hb⟩; have n0_ := Aside0.mk (blk_below (g := gb160) (o := .cells #[.int .i64 a0_0, .slice A0_1 l0_1.length c0_1, .slice A0_2 l0_2.length c0_2] 25 (0, 0)) (by (with_reducible repeat (first | refine blk_drewN ?_ _ | refine blk_drew ?_ | refine blk_alloc ?_ _)); exact BK160.out) hb); have n1_ := Aside0.mk (below_step (by repeat (first | (with_reducible first | exact HB.out | apply below_alloc | apply pw_below_drewN | apply below_drew1 | refine below_set ?_ GE160.out) | exact HB.out)) hb); clear BK160; clear HB; have BK160 := n0_; have HB := n1_; clear n0_ n1_; (try clear hb); (try clear hb2); (try clear hk); (try clear hi); have hcz14_0 : w13.cell? ⟨gb160, 0, none⟩ = some (.int .i64 a0_0) := (blk_cell BK160.out 0).trans rfl; have hcz14_1 : w13.cell? ⟨gb160, 1, none⟩ = some (.slice A0_1 l0_1.length c0_1) := (blk_cell BK160.out 1).trans rfl; have hcz14_2 : w13.cell? ⟨gb160, 2, none⟩ = some (.slice A0_2 l0_2.length c0_2) := (blk_cell BK160.out 2).trans rfl; have hfz14_0 := blk_frozen BK160.out 0; have hfz14_1 := blk_frozen BK160.out 1; have hfz14_2 := blk_frozen BK160.out 2))
        go_meet
        case rel => exact ⟨_, (decide (a0_0 > 1152921504606846968)), (by first | rfl | (simp; done) | (simp [*]; done)), H', ⟨by first | omega | exact Nat.le_refl _⟩, ⟨by (with_reducible repeat (first | refine blk_drewN ?_ _ | refine blk_drew ?_ | refine blk_alloc ?_ _)); exact BK160.out⟩, ⟨by repeat (first | (with_reducible first | exact HB.out | apply below_alloc | apply pw_below_drewN | apply below_drew1 | refine below_set ?_ GE160.out) | exact HB.out)⟩⟩
      · rw [if_neg c9] at H
        have c9b0 : (t162 == 0) = false := beq_eq_false_iff_ne.mpr c9
        have c9b1 : (t162 != 0) = true := bne_iff_ne.mpr c9
        (first | rw [c9b0] | (simp only [i64_w, i32_w]; rw [c9b0]) | rw [c9b1] | (simp only [i64_w, i32_w]; rw [c9b1]) | skip)
        have H' := Aside0.mk H
        clear H
        have hcz15_0 : w3.cell? ⟨gb160, 0, none⟩ = some (.int .i64 a0_0) := (blk_cell BK160.out 0).trans rfl
        have hcz15_1 : w3.cell? ⟨gb160, 1, none⟩ = some (.slice A0_1 l0_1.length c0_1) := (blk_cell BK160.out 1).trans rfl
        have hcz15_2 : w3.cell? ⟨gb160, 2, none⟩ = some (.slice A0_2 l0_2.length c0_2) := (blk_cell BK160.out 2).trans rfl
        have hfz15_0 := blk_frozen BK160.out 0
        have hfz15_1 := blk_frozen BK160.out 1
        have hfz15_2 := blk_frozen BK160.out 2
        go_wp2_with (first | ((with_reducible refine gate_callee (f := 10) rfl ?_); refine goesL_ (some 12) rfl rfl Try.func10 (by kernel_rfl) rfl #[.agg #[.int .i64 a0_0, .slice A0_1 l0_1.length c0_1, .slice A0_2 l0_2.length c0_2]] rfl (by (try simp only [List.map_toArray, List.map_cons, List.map_nil]); first | done | rfl | (simp only [List.length_drop, List.length_take]; rfl)) ?_; (with_reducible refine (lookoutref50_Great.calls k a0_0 _ _ l0_1 _ _ l0_2 false _ ?side1 ?side2 ?side3 ?side4 A4.out).mono ?_); (case side1 => repeat (first | exact (Kd.C_below HR0_1.out HB.out) | (with_reducible refine Kd.C_alloc ?_ _) | (with_reducible refine Kd.C_drewN ?_ _) | (with_reducible refine Kd.C_drew ?_))); (case side2 => exact HC0_1.out); (case side3 => repeat (first | exact (Kd.C_below HR0_2.out HB.out) | (with_reducible refine Kd.C_alloc ?_ _) | (with_reducible refine Kd.C_drewN ?_ _) | (with_reducible refine Kd.C_drew ?_))); (case side4 => exact HC0_2.out); rintro e w16 ⟨rfl, hb⟩; refine ⟨_, rfl, ?_⟩; have n0_ := Aside0.mk (blk_below (g := gb160) (o := .cells #[.int .i64 a0_0, .slice A0_1 l0_1.length c0_1, .slice A0_2 l0_2.length c0_2] 25 (0, 0)) (by (with_reducible repeat (first | refine blk_drewN ?_ _ | refine blk_drew ?_ | refine blk_alloc ?_ _)); exact BK160.out) hb); have n1_ := Aside0.mk (below_step (by repeat (first | (with_reducible first | exact HB.out | apply below_alloc | apply pw_below_drewN | apply below_drew1 | refine below_set ?_ GE160.out) | exact HB.out)) hb); clear BK160; clear HB; have BK160 := n0_; have HB := n1_; clear n0_ n1_; (try clear hb); (try clear hb2); (try clear hk); (try clear hi); have hcz17_0 : w16.cell? ⟨gb160, 0, none⟩ = some (.int .i64 a0_0) := (blk_cell BK160.out 0).trans rfl; have hcz17_1 : w16.cell? ⟨gb160, 1, none⟩ = some (.slice A0_1 l0_1.length c0_1) := (blk_cell BK160.out 1).trans rfl; have hcz17_2 : w16.cell? ⟨gb160, 2, none⟩ = some (.slice A0_2 l0_2.length c0_2) := (blk_cell BK160.out 2).trans rfl; have hfz17_0 := blk_frozen BK160.out 0; have hfz17_1 := blk_frozen BK160.out 1; have hfz17_2 := blk_frozen BK160.out 2) | (go_at_call 15; (with_reducible refine (network_Check.calls k a0_0 _ _ l0_1 _ _ l0_2 t162 _ ?side1 ?side2 ?side3 ?side4 A8.out).mono ?_); (case side1 => repeat (first | exact (Kd.C_below HR0_1.out HB.out) | (with_reducible refine Kd.C_alloc ?_ _) | (with_reducible refine Kd.C_drewN ?_ _) | (with_reducible refine Kd.C_drew ?_))); (case side2 => exact HC0_1.out); (case side3 => repeat (first | exact (Kd.C_below HR0_2.out HB.out) | (with_reducible refine Kd.C_alloc ?_ _) | (with_reducible refine Kd.C_drewN ?_ _) | (with_reducible refine Kd.C_drew ?_))); (case side4 => exact HC0_2.out); rintro e w18 ⟨rfl, hb⟩; have n0_ := Aside0.mk (blk_below (g := gb160) (o := .cells #[.int .i64 a0_0, .slice A0_1 l0_1.length c0_1, .slice A0_2 l0_2.length c0_2] 25 (0, 0)) (by (with_reducible repeat (first | refine blk_drewN ?_ _ | refine blk_drew ?_ | refine blk_alloc ?_ _)); exact BK160.out) hb); have n1_ := Aside0.mk (below_step (by repeat (first | (with_reducible first | exact HB.out | apply below_alloc | apply pw_below_drewN | apply below_drew1 | refine below_set ?_ GE160.out) | exact HB.out)) hb); clear BK160; clear HB; have BK160 := n0_; have HB := n1_; clear n0_ n1_; (try clear hb); (try clear hb2); (try clear hk); (try clear hi)))
        go_meet
        case rel => exact ⟨_, (true), (by first | rfl | (simp; done) | (simp [*]; done)), H', ⟨by first | omega | exact Nat.le_refl _⟩, ⟨by (with_reducible repeat (first | refine blk_drewN ?_ _ | refine blk_drew ?_ | refine blk_alloc ?_ _)); exact BK160.out⟩, ⟨by repeat (first | (with_reducible first | exact HB.out | apply below_alloc | apply pw_below_drewN | apply below_drew1 | refine below_set ?_ GE160.out) | exact HB.out)⟩⟩
  case rest =>
    clear HC2
    try clear c1
    try clear p2
    try clear c5
    try clear c6
    try clear c9
    try clear c9b0
    try clear c9b1
    try clear c10
    try clear hcz10_0
    try clear hcz10_1
    try clear hcz10_2
    try clear hcz12_0
    try clear hcz12_1
    try clear hcz12_2
    try clear hcz14_0
    try clear hcz14_1
    try clear hcz14_2
    try clear hcz15_0
    try clear hcz15_1
    try clear hcz15_2
    try clear hcz17_0
    try clear hcz17_1
    try clear hcz17_2
    try clear hcz6_0
    try clear hcz6_1
    try clear hcz6_2
    try clear hfz10_0
    try clear hfz10_1
    try clear hfz10_2
    try clear hfz12_0
    try clear hfz12_1
    try clear hfz12_2
    try clear hfz14_0
    try clear hfz14_1
    try clear hfz14_2
    try clear hfz15_0
    try clear hfz15_1
    try clear hfz15_2
    try clear hfz17_0
    try clear hfz17_1
    try clear hfz17_2
    try clear hfz6_0
    try clear hfz6_1
    try clear hfz6_2
    obtain ⟨kq, x22_1, rfl, HA, HJ1, BK160, HB⟩ := hcut
    cases kq with
    | zero => exact absurd HA.out (by simp [lookoutlaw50_NetworkEnds.j0])
    | succ kj1 =>
      have H := HA.out
      clear HA
      simp only [lookoutlaw50_NetworkEnds.j0] at H
      by_cases c19 : x22_1 = true
      · subst c19
        have H1 : ((lookoutlaw50_awake.f kj1).bind fun t163 => (some t163)) = some r := by rw [if_pos rfl] at H; exact H
        clear H
        have H := H1
        clear H1
        replace H := Option.bind_eq_some_iff.mp H
        obtain ⟨t163, A200, H⟩ := H
        replace H : (some t163) = some r := H
        have A20 := Aside0.mk A200
        clear A200
        obtain rfl := Option.some.inj H
        go_wp2_with (first | ((with_reducible refine gate_callee (f := 11) rfl ?_); refine goesL_ (some 23) rfl rfl Try.func11 (by kernel_rfl) rfl #[] rfl (by (try simp only [List.map_toArray, List.map_cons, List.map_nil]); first | done | rfl | (simp only [List.length_drop, List.length_take]; rfl)) ?_; (with_reducible refine (lookoutlaw50_awake.calls kj1  t163 _ A20.out).mono ?_); rintro e w21 ⟨rfl, hb⟩; refine ⟨_, rfl, ?_⟩; have n0_ := Aside0.mk (blk_below (g := gb160) (o := .cells #[.int .i64 a0_0, .slice A0_1 l0_1.length c0_1, .slice A0_2 l0_2.length c0_2] 25 (0, 0)) (by (with_reducible repeat (first | refine blk_drewN ?_ _ | refine blk_drew ?_ | refine blk_alloc ?_ _)); exact BK160.out) hb); have n1_ := Aside0.mk (below_step (by repeat (first | (with_reducible first | exact HB.out | apply below_alloc | apply pw_below_drewN | apply below_drew1 | refine below_set ?_ GE160.out) | exact HB.out)) hb); clear BK160; clear HB; have BK160 := n0_; have HB := n1_; clear n0_ n1_; (try clear hb); (try clear hb2); (try clear hk); (try clear hi)))
        go_ret
        exact ⟨by first | rfl | (simp [errW_none, errW_some] <;> rfl) | (simp [*, errW_none, errW_some] <;> rfl), by repeat (first | (with_reducible first | exact HB.out | apply below_alloc | apply pw_below_drewN | apply below_drew1 | refine below_set ?_ GE160.out) | exact HB.out)⟩
      · replace c19 := Bool.eq_false_iff.mpr c19
        subst c19
        have H1 : ((lookoutlaw50_steps.f kj1 a0_0 l0_1 l0_2 8).bind fun bt164 => (if bt164.2.2.2.2 = true then ((network_Idle.f bt164.2.1 bt164.2.2.1 bt164.2.2.2.1).bind fun t176 => (lookoutlaw50_NetworkEnds.j1 kj1 bt164.1 (!t176) a0_0 l0_1 l0_2)) else (lookoutlaw50_NetworkEnds.j1 kj1 bt164.1 true a0_0 l0_1 l0_2))) = some r := by rw [if_neg (show ¬ (false = true) by decide)] at H; exact H
        clear H
        have H := H1
        clear H1
        replace H := Option.bind_eq_some_iff.mp H
        obtain ⟨⟨t164, t167, t168, t171, t174⟩, A220, H⟩ := H
        replace H : (if t174 = true then ((network_Idle.f t167 t168 t171).bind fun t176 => (lookoutlaw50_NetworkEnds.j1 kj1 t164 (!t176) a0_0 l0_1 l0_2)) else (lookoutlaw50_NetworkEnds.j1 kj1 t164 true a0_0 l0_1 l0_2)) = some r := H
        have A22 := Aside0.mk A220
        clear A220
        have HC23 := Aside0.mk H
        clear H
        have hcz24_0 : wc.cell? ⟨gb160, 0, none⟩ = some (.int .i64 a0_0) := (blk_cell BK160.out 0).trans rfl
        have hcz24_1 : wc.cell? ⟨gb160, 1, none⟩ = some (.slice A0_1 l0_1.length c0_1) := (blk_cell BK160.out 1).trans rfl
        have hcz24_2 : wc.cell? ⟨gb160, 2, none⟩ = some (.slice A0_2 l0_2.length c0_2) := (blk_cell BK160.out 2).trans rfl
        have hfz24_0 := blk_frozen BK160.out 0
        have hfz24_1 := blk_frozen BK160.out 1
        have hfz24_2 := blk_frozen BK160.out 2
        go_upto_region 4 with (first | ((with_reducible refine gate_callee (f := 25) rfl ?_); refine goesL_ (some 26) rfl rfl Try.func25 (by kernel_rfl) rfl #[.agg #[.int .i64 a0_0, .slice A0_1 l0_1.length c0_1, .slice A0_2 l0_2.length c0_2], .int .i64 8] rfl (by (try simp only [List.map_toArray, List.map_cons, List.map_nil]); first | done | rfl | (simp only [List.length_drop, List.length_take]; rfl)) ?_; (with_reducible refine (lookoutlaw50_steps.calls kj1 a0_0 (fun k_ => k_ < w.heap.size) _ _ l0_1 (fun k_ => k_ < w.heap.size) _ _ l0_2 8 t164 t167 t168 t171 t174 _ ?side1 ?side2 A22.out).mono ?_); (case side1 => exact Kd.V_mk HC0_1.out (Kd.F_below (Kd.C_F (Kd.heap_int .i64) HR0_1.out) (by repeat (first | (with_reducible first | exact HB.out | apply below_alloc | apply pw_below_drewN | apply below_drew1 | refine below_set ?_ GE160.out) | exact HB.out)))); (case side2 => exact Kd.V_mk HC0_2.out (Kd.F_below (Kd.C_F k44_heap HR0_2.out) (by repeat (first | (with_reducible first | exact HB.out | apply below_alloc | apply pw_below_drewN | apply below_drew1 | refine below_set ?_ GE160.out) | exact HB.out)))); rintro e w25 ⟨v165, v169, v172, rfl, ho0, ho1, ho2, hb⟩; refine ⟨_, rfl, ?_⟩; have n0_ := Aside0.mk (Kd.S_lower (Kd.S_mono (ok' := fun k_ => True) ho0 (fun _ hk_ => trivial)) (below_size (by repeat (first | (with_reducible first | exact HB.out | apply below_alloc | apply pw_below_drewN | apply below_drew1 | refine below_set ?_ GE160.out) | exact HB.out)))); have n1_ := Aside0.mk (Kd.V_lower (Kd.V_mono (ok' := fun k_ => some k_ ≠ (v165 : Value).ownBlock ∧ k_ ≠ gb160) ho1 (fun k_ hk_ => ⟨hk_.2, Or.elim hk_.1 (fun hs_ => Or.elim hs_ (fun hs_ => fun e_ => Nat.not_le.2 hs_ (by rw [e_]; exact GW160.out)) (fun hs_ => fun e_ => Nat.not_le.2 hs_ (by rw [e_]; exact GW160.out))) (fun hn_ => (Kd.freshB (g := gb160) (o := .cells #[.int .i64 a0_0, .slice A0_1 l0_1.length c0_1, .slice A0_2 l0_2.length c0_2] 25 (0, 0)) (by (with_reducible repeat (first | refine blk_drewN ?_ _ | refine blk_drew ?_ | refine blk_alloc ?_ _)); exact BK160.out) k_ hn_))⟩)) (below_size (by repeat (first | (with_reducible first | exact HB.out | apply below_alloc | apply pw_below_drewN | apply below_drew1 | refine below_set ?_ GE160.out) | exact HB.out)))); have n2_ := Aside0.mk (Kd.V_lower (Kd.V_mono (ok' := fun k_ => some k_ ≠ (v165 : Value).ownBlock ∧ k_ ≠ gb160) ho2 (fun k_ hk_ => ⟨hk_.2, Or.elim hk_.1 (fun hs_ => Or.elim hs_ (fun hs_ => fun e_ => Nat.not_le.2 hs_ (by rw [e_]; exact GW160.out)) (fun hs_ => fun e_ => Nat.not_le.2 hs_ (by rw [e_]; exact GW160.out))) (fun hn_ => (Kd.freshB (g := gb160) (o := .cells #[.int .i64 a0_0, .slice A0_1 l0_1.length c0_1, .slice A0_2 l0_2.length c0_2] 25 (0, 0)) (by (with_reducible repeat (first | refine blk_drewN ?_ _ | refine blk_drew ?_ | refine blk_alloc ?_ _)); exact BK160.out) k_ hn_))⟩)) (below_size (by repeat (first | (with_reducible first | exact HB.out | apply below_alloc | apply pw_below_drewN | apply below_drew1 | refine below_set ?_ GE160.out) | exact HB.out)))); have n3_ := Aside0.mk (blk_below (g := gb160) (o := .cells #[.int .i64 a0_0, .slice A0_1 l0_1.length c0_1, .slice A0_2 l0_2.length c0_2] 25 (0, 0)) (by (with_reducible repeat (first | refine blk_drewN ?_ _ | refine blk_drew ?_ | refine blk_alloc ?_ _)); exact BK160.out) hb); have n4_ := Aside0.mk (below_step (by repeat (first | (with_reducible first | exact HB.out | apply below_alloc | apply pw_below_drewN | apply below_drew1 | refine below_set ?_ GE160.out) | exact HB.out)) hb); clear BK160; clear HB; have HO166 := n0_; have HO170 := n1_; have HO173 := n2_; have BK160 := n3_; have HB := n4_; clear n0_ n1_ n2_ n3_ n4_; (try clear hb); (try clear hb2); (try clear hk); (try clear hi); (try clear ho0); (try clear ho1); (try clear ho2)) | ((with_reducible refine gate_dst (N := 4) rfl ?_); refine box_event ?hg (N := 4) ?hd (cs := #[.int .i64 0, .slice none 0 0, .slice none 0 0]) (t := 25) ?hr ?_; (case hd => rfl); (case hg => rfl); (case hr => first | (go_simp; done) | (go_simp; rfl)); intro gb175 hg w26 hbox hb; have n0_ := Aside0.mk (Kd.S_below (by (with_reducible repeat (first | apply Kd.S_alloc | apply Kd.S_drewN | apply Kd.S_drew)); exact HO166.out) hb); have n1_ := Aside0.mk (Kd.V_below (Kd.V_elderB (by (with_reducible repeat (first | apply Kd.V_alloc | apply Kd.V_drewN | apply Kd.V_drew)); exact HO170.out) gb175 (Nat.le_of_eq hg.symm)) hb); have n2_ := Aside0.mk (Kd.V_below (Kd.V_elderB (by (with_reducible repeat (first | apply Kd.V_alloc | apply Kd.V_drewN | apply Kd.V_drew)); exact HO173.out) gb175 (Nat.le_of_eq hg.symm)) hb); have n3_ := Aside0.mk (blk_below (g := gb160) (o := .cells #[.int .i64 a0_0, .slice A0_1 l0_1.length c0_1, .slice A0_2 l0_2.length c0_2] 25 (0, 0)) (by (with_reducible repeat (first | refine blk_drewN ?_ _ | refine blk_drew ?_ | refine blk_alloc ?_ _)); exact BK160.out) hb); have n4_ := Aside0.mk (below_step (by repeat (first | (with_reducible first | exact HB.out | apply below_alloc | apply pw_below_drewN | apply below_drew1 | refine below_set ?_ GE160.out) | exact HB.out)) hb); have n5_ := Aside0.mk (hbox); have n6_ := Aside0.mk ((by rw [hg]; exact (below_size (by repeat (first | (with_reducible first | exact HB.out | apply below_alloc | apply pw_below_drewN | apply below_drew1 | refine below_set ?_ GE160.out) | exact HB.out))) : w.heap.size ≤ gb175)); have n7_ := Aside0.mk ((by rw [hg]; exact (below_size (by repeat (first | (with_reducible first | exact HB.out | apply below_alloc | apply pw_below_drewN | apply below_drew1 | refine below_set ?_ GE160.out) | exact HB.out))) : w.heap.size ≤ gb175)); have n8_ := Aside0.mk ((by rw [hg]; exact Nat.ne_of_lt (blk_lt (g := gb160) (o := .cells #[.int .i64 a0_0, .slice A0_1 l0_1.length c0_1, .slice A0_2 l0_2.length c0_2] 25 (0, 0)) (by (with_reducible repeat (first | refine blk_drewN ?_ _ | refine blk_drew ?_ | refine blk_alloc ?_ _)); exact BK160.out)) : gb160 ≠ gb175)); have n9_ := Aside0.mk ((by rw [hg]; exact Nat.ne_of_gt (blk_lt (g := gb160) (o := .cells #[.int .i64 a0_0, .slice A0_1 l0_1.length c0_1, .slice A0_2 l0_2.length c0_2] 25 (0, 0)) (by (with_reducible repeat (first | refine blk_drewN ?_ _ | refine blk_drew ?_ | refine blk_alloc ?_ _)); exact BK160.out)) : gb175 ≠ gb160)); clear HO166; clear HO170; clear HO173; clear BK160; clear HB; have HO166 := n0_; have HO170 := n1_; have HO173 := n2_; have BK160 := n3_; have HB := n4_; have BK175 := n5_; have GW175 := n6_; have GE175 := n7_; have NB160_175 := n8_; have NB175_160 := n9_; clear n0_ n1_ n2_ n3_ n4_ n5_ n6_ n7_ n8_ n9_; clear hb hbox hg; have hnb27 := NB175_160.out; have hnc27 := NB160_175.out; have hcz28_0 : w26.cell? ⟨gb175, 0, none⟩ = some (.int .i64 0) := (blk_cell BK175.out 0).trans rfl; have hcz28_1 : w26.cell? ⟨gb175, 1, none⟩ = some (.slice none 0 0) := (blk_cell BK175.out 1).trans rfl; have hcz28_2 : w26.cell? ⟨gb175, 2, none⟩ = some (.slice none 0 0) := (blk_cell BK175.out 2).trans rfl; have hfz28_0 := blk_frozen BK175.out 0; have hfz28_1 := blk_frozen BK175.out 1; have hfz28_2 := blk_frozen BK175.out 2; obtain ⟨Ao29, co29, eo29⟩ := Kd.V_slice HO170.out; subst eo29; obtain ⟨Ao30, co30, eo30⟩ := Kd.V_slice HO173.out; subst eo30))
        (try simp only [Act.put, List.setIfInBounds_toArray, List.set_cons_zero, List.set_cons_succ])
        go_cut [36] (fun v36 wc => ∃ (kq : Nat) (x36_22 : Bool), v36 = .bool x36_22 ∧ Aside0 (lookoutlaw50_NetworkEnds.j1 kq t164 x36_22 a0_0 l0_1 l0_2 = some r) ∧ Aside0 (kq ≤ kj1) ∧ Aside0 (Kd.S (Kd.slice 27 k27) 38 wc w.heap.size (fun _ => True) v165 t164) ∧ Aside0 (Kd.V (Kd.int .i64) 3 wc w.heap.size (fun k_ => some k_ ≠ (v165 : Value).ownBlock ∧ k_ ≠ gb160 ∧ k_ ≠ gb175) (.slice Ao29 t168.length co29) t168) ∧ Aside0 (Kd.V k44 44 wc w.heap.size (fun k_ => some k_ ≠ (v165 : Value).ownBlock ∧ k_ ≠ gb160 ∧ k_ ≠ gb175) (.slice Ao30 t171.length co30) t171) ∧ Aside0 (wc.heap[gb160]? = some (.cells #[.int .i64 a0_0, (.slice A0_1 l0_1.length c0_1), (.slice A0_2 l0_2.length c0_2)] 25 (0, 0))) ∧ Aside0 (wc.heap[gb175]? = some (.cells #[.int .i64 t167, (.slice Ao29 t168.length co29), (.slice Ao30 t171.length co30)] 25 (0, 0))) ∧ Aside0 (Below w.heap.size w wc))
        case first =>
          have H := HC23.out
          clear HC23
          by_cases c31 : t174 = true
          · subst c31
            have H1 : ((network_Idle.f t167 t168 t171).bind fun t176 => (lookoutlaw50_NetworkEnds.j1 kj1 t164 (!t176) a0_0 l0_1 l0_2)) = some r := by rw [if_pos rfl] at H; exact H
            clear H
            have H := H1
            clear H1
            replace H := Option.bind_eq_some_iff.mp H
            obtain ⟨t176, A320, H⟩ := H
            replace H : (lookoutlaw50_NetworkEnds.j1 kj1 t164 (!t176) a0_0 l0_1 l0_2) = some r := H
            have A32 := Aside0.mk A320
            clear A320
            have H' := Aside0.mk H
            clear H
            have hnb33 := NB175_160.out
            have hnc33 := NB160_175.out
            have hcz34_0 : w26.cell? ⟨gb175, 0, none⟩ = some (.int .i64 0) := (blk_cell BK175.out 0).trans rfl
            have hcz34_1 : w26.cell? ⟨gb175, 1, none⟩ = some (.slice none 0 0) := (blk_cell BK175.out 1).trans rfl
            have hcz34_2 : w26.cell? ⟨gb175, 2, none⟩ = some (.slice none 0 0) := (blk_cell BK175.out 2).trans rfl
            have hfz34_0 := blk_frozen BK175.out 0
            have hfz34_1 := blk_frozen BK175.out 1
            have hfz34_2 := blk_frozen BK175.out 2
            go_wp2_with (first | (go_at_call 20; (with_reducible refine (network_Idle.calls t167 _ _ t168 _ _ t171 t176 _ ?side1 ?side2 ?side3 ?side4 A32.out).mono ?_); (case side1 => refine (Kd.V_reads' (e := 3) (base := w.heap.size) (ok := fun k_ => ((some k_ ≠ (v165 : Value).ownBlock ∧ k_ ≠ gb160) ∧ k_ ≠ gb175)) (n := t168.length) (c := co29) ?_).2.2; exact (by (with_reducible repeat (first | apply Kd.V_alloc | apply Kd.V_drewN | apply Kd.V_drew)); exact (Kd.V_mono (Kd.V_far (p := ⟨gb175, 2, none⟩) (Kd.V_far (p := ⟨gb175, 1, none⟩) (Kd.V_far (p := ⟨gb175, 0, none⟩) (Kd.V_mono HO170.out (fun k_ hk => (⟨hk, hk.2⟩ : _ ∧ k_ ≠ gb175))) (fun _ hk => hk.2) (.int .i64 t167)) (fun _ hk => hk.2) (.slice Ao29 t168.length co29)) (fun _ hk => hk.2) (.slice Ao30 t171.length co30)) (fun _ h_ => h_.1)))); (case side2 => exact (Kd.V_reads' HO170.out).2.1); (case side3 => refine (Kd.V_reads' (e := 44) (base := w.heap.size) (ok := fun k_ => ((some k_ ≠ (v165 : Value).ownBlock ∧ k_ ≠ gb160) ∧ k_ ≠ gb175)) (n := t171.length) (c := co30) ?_).2.2; exact (by (with_reducible repeat (first | apply Kd.V_alloc | apply Kd.V_drewN | apply Kd.V_drew)); exact (Kd.V_mono (Kd.V_far (p := ⟨gb175, 2, none⟩) (Kd.V_far (p := ⟨gb175, 1, none⟩) (Kd.V_far (p := ⟨gb175, 0, none⟩) (Kd.V_mono HO173.out (fun k_ hk => (⟨hk, hk.2⟩ : _ ∧ k_ ≠ gb175))) (fun _ hk => hk.2) (.int .i64 t167)) (fun _ hk => hk.2) (.slice Ao29 t168.length co29)) (fun _ hk => hk.2) (.slice Ao30 t171.length co30)) (fun _ h_ => h_.1)))); (case side4 => exact (Kd.V_reads' HO173.out).2.1); rintro e w35 ⟨rfl, hb⟩; have n0_ := Aside0.mk (Kd.S_below (by (with_reducible repeat (first | apply Kd.S_alloc | apply Kd.S_drewN | apply Kd.S_drew)); exact (Kd.S_mono (Kd.S_far (p := ⟨gb175, 2, none⟩) (Kd.S_far (p := ⟨gb175, 1, none⟩) (Kd.S_far (p := ⟨gb175, 0, none⟩) (Kd.S_types HO166.out BK175.out (by decide)) (fun _ hk => hk.2) (.int .i64 t167)) (fun _ hk => hk.2) (.slice Ao29 t168.length co29)) (fun _ hk => hk.2) (.slice Ao30 t171.length co30)) (fun _ h_ => h_.1))) hb); have n1_ := Aside0.mk (Kd.V_below (by (with_reducible repeat (first | apply Kd.V_alloc | apply Kd.V_drewN | apply Kd.V_drew)); exact (Kd.V_mono (Kd.V_far (p := ⟨gb175, 2, none⟩) (Kd.V_far (p := ⟨gb175, 1, none⟩) (Kd.V_far (p := ⟨gb175, 0, none⟩) (Kd.V_mono HO170.out (fun k_ hk => (⟨hk, hk.2⟩ : _ ∧ k_ ≠ gb175))) (fun _ hk => hk.2) (.int .i64 t167)) (fun _ hk => hk.2) (.slice Ao29 t168.length co29)) (fun _ hk => hk.2) (.slice Ao30 t171.length co30)) (fun _ h_ => h_.1))) hb); have n2_ := Aside0.mk (Kd.V_below (by (with_reducible repeat (first | apply Kd.V_alloc | apply Kd.V_drewN | apply Kd.V_drew)); exact (Kd.V_mono (Kd.V_far (p := ⟨gb175, 2, none⟩) (Kd.V_far (p := ⟨gb175, 1, none⟩) (Kd.V_far (p := ⟨gb175, 0, none⟩) (Kd.V_mono HO173.out (fun k_ hk => (⟨hk, hk.2⟩ : _ ∧ k_ ≠ gb175))) (fun _ hk => hk.2) (.int .i64 t167)) (fun _ hk => hk.2) (.slice Ao29 t168.length co29)) (fun _ hk => hk.2) (.slice Ao30 t171.length co30)) (fun _ h_ => h_.1))) hb); have n3_ := Aside0.mk (blk_below (g := gb160) (o := .cells #[.int .i64 a0_0, .slice A0_1 l0_1.length c0_1, .slice A0_2 l0_2.length c0_2] 25 (0, 0)) (by (with_reducible repeat (first | refine blk_drewN ?_ _ | refine blk_drew ?_ | refine blk_alloc ?_ _)); refine blk_far ?_ NB160_175.out _; (with_reducible repeat (first | refine blk_drewN ?_ _ | refine blk_drew ?_ | refine blk_alloc ?_ _)); refine blk_far ?_ NB160_175.out _; (with_reducible repeat (first | refine blk_drewN ?_ _ | refine blk_drew ?_ | refine blk_alloc ?_ _)); refine blk_far ?_ NB160_175.out _; (with_reducible repeat (first | refine blk_drewN ?_ _ | refine blk_drew ?_ | refine blk_alloc ?_ _)); exact BK160.out) hb); have n4_ := Aside0.mk (blk_below (g := gb175) (o := .cells #[.int .i64 t167, .slice Ao29 t168.length co29, .slice Ao30 t171.length co30] 25 (0, 0)) (by (with_reducible repeat (first | refine blk_drewN ?_ _ | refine blk_drew ?_ | refine blk_alloc ?_ _)); refine blk_put (cs := #[.int .i64 t167, .slice Ao29 t168.length co29, .slice none 0 0]) ?_ 2 _ rfl; (with_reducible repeat (first | refine blk_drewN ?_ _ | refine blk_drew ?_ | refine blk_alloc ?_ _)); refine blk_put (cs := #[.int .i64 t167, .slice none 0 0, .slice none 0 0]) ?_ 1 _ rfl; (with_reducible repeat (first | refine blk_drewN ?_ _ | refine blk_drew ?_ | refine blk_alloc ?_ _)); refine blk_put (cs := #[.int .i64 0, .slice none 0 0, .slice none 0 0]) ?_ 0 _ rfl; (with_reducible repeat (first | refine blk_drewN ?_ _ | refine blk_drew ?_ | refine blk_alloc ?_ _)); exact BK175.out) hb); have n5_ := Aside0.mk (below_step (by repeat (first | (with_reducible first | exact HB.out | apply below_alloc | apply pw_below_drewN | apply below_drew1 | refine below_set ?_ GE160.out | refine below_set ?_ GE175.out) | exact HB.out)) hb); clear HO166; clear HO170; clear HO173; clear BK160; clear BK175; clear HB; have HO166 := n0_; have HO170 := n1_; have HO173 := n2_; have BK160 := n3_; have BK175 := n4_; have HB := n5_; clear n0_ n1_ n2_ n3_ n4_ n5_; (try clear hb); (try clear hb2); (try clear hk); (try clear hi)))
            go_meet
            case rel => exact ⟨_, (!t176), (by first | rfl | (simp; done) | (simp [*]; done)), H', ⟨by have := HJ1.out; first | omega | exact Nat.le_refl _⟩, ⟨by (with_reducible repeat (first | apply Kd.S_alloc | apply Kd.S_drewN | apply Kd.S_drew)); exact HO166.out⟩, ⟨by (with_reducible repeat (first | apply Kd.V_alloc | apply Kd.V_drewN | apply Kd.V_drew)); exact Kd.V_mono HO170.out (fun _ hk => ⟨hk.1.1, ⟨hk.1.2, hk.2⟩⟩)⟩, ⟨by (with_reducible repeat (first | apply Kd.V_alloc | apply Kd.V_drewN | apply Kd.V_drew)); exact Kd.V_mono HO173.out (fun _ hk => ⟨hk.1.1, ⟨hk.1.2, hk.2⟩⟩)⟩, ⟨by (with_reducible repeat (first | refine blk_drewN ?_ _ | refine blk_drew ?_ | refine blk_alloc ?_ _)); exact BK160.out⟩, ⟨by (with_reducible repeat (first | refine blk_drewN ?_ _ | refine blk_drew ?_ | refine blk_alloc ?_ _)); exact BK175.out⟩, ⟨by repeat (first | (with_reducible first | exact HB.out | apply below_alloc | apply pw_below_drewN | apply below_drew1 | refine below_set ?_ GE160.out | refine below_set ?_ GE175.out) | exact HB.out)⟩⟩
          · replace c31 := Bool.eq_false_iff.mpr c31
            subst c31
            have H1 : (lookoutlaw50_NetworkEnds.j1 kj1 t164 true a0_0 l0_1 l0_2) = some r := by rw [if_neg (show ¬ (false = true) by decide)] at H; exact H
            clear H
            have H := H1
            clear H1
            have H' := Aside0.mk H
            clear H
            go_wp2
            go_meet
            case rel => exact ⟨_, (true), (by first | rfl | (simp; done) | (simp [*]; done)), H', ⟨by have := HJ1.out; first | omega | exact Nat.le_refl _⟩, ⟨by (with_reducible repeat (first | apply Kd.S_alloc | apply Kd.S_drewN | apply Kd.S_drew)); exact Kd.S_mono (Kd.S_far (p := ⟨gb175, 2, none⟩) (Kd.S_far (p := ⟨gb175, 1, none⟩) (Kd.S_far (p := ⟨gb175, 0, none⟩) (Kd.S_types HO166.out BK175.out (by decide)) (fun _ hk => hk.2) (.int .i64 t167)) (fun _ hk => hk.2) (.slice Ao29 t168.length co29)) (fun _ hk => hk.2) (.slice Ao30 t171.length co30)) (fun _ hk => trivial)⟩, ⟨by (with_reducible repeat (first | apply Kd.V_alloc | apply Kd.V_drewN | apply Kd.V_drew)); exact Kd.V_mono (Kd.V_far (p := ⟨gb175, 2, none⟩) (Kd.V_far (p := ⟨gb175, 1, none⟩) (Kd.V_far (p := ⟨gb175, 0, none⟩) (Kd.V_mono HO170.out (fun k_ hk => (⟨hk, hk.2⟩ : _ ∧ k_ ≠ gb175))) (fun _ hk => hk.2) (.int .i64 t167)) (fun _ hk => hk.2) (.slice Ao29 t168.length co29)) (fun _ hk => hk.2) (.slice Ao30 t171.length co30)) (fun _ hk => ⟨hk.1.1.1, ⟨hk.1.1.2, hk.1.2⟩⟩)⟩, ⟨by (with_reducible repeat (first | apply Kd.V_alloc | apply Kd.V_drewN | apply Kd.V_drew)); exact Kd.V_mono (Kd.V_far (p := ⟨gb175, 2, none⟩) (Kd.V_far (p := ⟨gb175, 1, none⟩) (Kd.V_far (p := ⟨gb175, 0, none⟩) (Kd.V_mono HO173.out (fun k_ hk => (⟨hk, hk.2⟩ : _ ∧ k_ ≠ gb175))) (fun _ hk => hk.2) (.int .i64 t167)) (fun _ hk => hk.2) (.slice Ao29 t168.length co29)) (fun _ hk => hk.2) (.slice Ao30 t171.length co30)) (fun _ hk => ⟨hk.1.1.1, ⟨hk.1.1.2, hk.1.2⟩⟩)⟩, ⟨by (with_reducible repeat (first | refine blk_drewN ?_ _ | refine blk_drew ?_ | refine blk_alloc ?_ _)); refine blk_far ?_ NB160_175.out _; (with_reducible repeat (first | refine blk_drewN ?_ _ | refine blk_drew ?_ | refine blk_alloc ?_ _)); refine blk_far ?_ NB160_175.out _; (with_reducible repeat (first | refine blk_drewN ?_ _ | refine blk_drew ?_ | refine blk_alloc ?_ _)); refine blk_far ?_ NB160_175.out _; (with_reducible repeat (first | refine blk_drewN ?_ _ | refine blk_drew ?_ | refine blk_alloc ?_ _)); exact BK160.out⟩, ⟨by (with_reducible repeat (first | refine blk_drewN ?_ _ | refine blk_drew ?_ | refine blk_alloc ?_ _)); refine blk_put (cs := #[.int .i64 t167, .slice Ao29 t168.length co29, .slice none 0 0]) ?_ 2 _ rfl; (with_reducible repeat (first | refine blk_drewN ?_ _ | refine blk_drew ?_ | refine blk_alloc ?_ _)); refine blk_put (cs := #[.int .i64 t167, .slice none 0 0, .slice none 0 0]) ?_ 1 _ rfl; (with_reducible repeat (first | refine blk_drewN ?_ _ | refine blk_drew ?_ | refine blk_alloc ?_ _)); refine blk_put (cs := #[.int .i64 0, .slice none 0 0, .slice none 0 0]) ?_ 0 _ rfl; (with_reducible repeat (first | refine blk_drewN ?_ _ | refine blk_drew ?_ | refine blk_alloc ?_ _)); exact BK175.out⟩, ⟨by repeat (first | (with_reducible first | exact HB.out | apply below_alloc | apply pw_below_drewN | apply below_drew1 | refine below_set ?_ GE160.out | refine below_set ?_ GE175.out) | exact HB.out)⟩⟩
        case rest =>
          clear HC23
          try clear c1
          try clear c2
          try clear p2
          try clear c3
          try clear c5
          try clear c6
          try clear c9
          try clear c9b0
          try clear c9b1
          try clear c10
          try clear c11
          try clear c19
          try clear c25
          try clear c27
          try clear c31
          try clear c33
          try clear hcz10_0
          try clear hcz10_1
          try clear hcz10_2
          try clear hcz12_0
          try clear hcz12_1
          try clear hcz12_2
          try clear hcz14_0
          try clear hcz14_1
          try clear hcz14_2
          try clear hcz15_0
          try clear hcz15_1
          try clear hcz15_2
          try clear hcz17_0
          try clear hcz17_1
          try clear hcz17_2
          try clear hcz24_0
          try clear hcz24_1
          try clear hcz24_2
          try clear hcz28_0
          try clear hcz28_1
          try clear hcz28_2
          try clear hcz34_0
          try clear hcz34_1
          try clear hcz34_2
          try clear hcz6_0
          try clear hcz6_1
          try clear hcz6_2
          try clear hfz10_0
          try clear hfz10_1
          try clear hfz10_2
          try clear hfz12_0
          try clear hfz12_1
          try clear hfz12_2
          try clear hfz14_0
          try clear hfz14_1
          try clear hfz14_2
          try clear hfz15_0
          try clear hfz15_1
          try clear hfz15_2
          try clear hfz17_0
          try clear hfz17_1
          try clear hfz17_2
          try clear hfz24_0
          try clear hfz24_1
          try clear hfz24_2
          try clear hfz28_0
          try clear hfz28_1
          try clear hfz28_2
          try clear hfz34_0
          try clear hfz34_1
          try clear hfz34_2
          try clear hfz6_0
          try clear hfz6_1
          try clear hfz6_2
          try clear p2
          obtain ⟨kq, x36_22, rfl, HA, HJ22, HO_3, HO_176001, HO_176002, BK160, BK175, HB⟩ := hcut
          cases kq with
          | zero => exact absurd HA.out (by simp [lookoutlaw50_NetworkEnds.j1])
          | succ kj22 =>
            have H := HA.out
            clear HA
            simp only [lookoutlaw50_NetworkEnds.j1] at H
            by_cases c36 : x36_22 = true
            · subst c36
              have H1 : (none) = some r := by rw [if_pos rfl] at H; exact H
              clear H
              have H := H1
              clear H1
              exact absurd H (by simp)
            · replace c36 := Bool.eq_false_iff.mpr c36
              subst c36
              have H1 : (lookoutlaw50_NetworkEnds.l0 kj22 t164 (t164.length : Int) 0 a0_0 l0_1 l0_2) = some r := by rw [if_neg (show ¬ (false = true) by decide)] at H; exact H
              clear H
              have H := H1
              clear H1
              have H' := Aside0.mk H
              clear H
              obtain ⟨Ao37, co37, eo37⟩ := Kd.S_slice HO_3.out
              subst eo37
              go_wp2
              go_loopg [39] kj22 (fun kq v39 w' => ∃ (x39_3 : Int), v39 = .int .i64 x39_3 ∧ Aside0 (lookoutlaw50_NetworkEnds.l0 kq t164 (t164.length : Int) x39_3 a0_0 l0_1 l0_2 = some r) ∧ Aside0 (kq ≤ kj22) ∧ Aside0 (Kd.S (Kd.slice 27 k27) 38 w' w.heap.size (fun _ => True) (.slice Ao37 t164.length co37) t164) ∧ Aside0 (Kd.V (Kd.int .i64) 3 w' w.heap.size (fun k_ => some k_ ≠ ((.slice Ao37 t164.length co37) : Value).ownBlock ∧ k_ ≠ gb160 ∧ k_ ≠ gb175) (.slice Ao29 t168.length co29) t168) ∧ Aside0 (Kd.V k44 44 w' w.heap.size (fun k_ => some k_ ≠ ((.slice Ao37 t164.length co37) : Value).ownBlock ∧ k_ ≠ gb160 ∧ k_ ≠ gb175) (.slice Ao30 t171.length co30) t171) ∧ Aside0 (w'.heap[gb160]? = some (.cells #[.int .i64 a0_0, (.slice A0_1 l0_1.length c0_1), (.slice A0_2 l0_2.length c0_2)] 25 (0, 0))) ∧ Aside0 (w'.heap[gb175]? = some (.cells #[.int .i64 t167, (.slice Ao29 t168.length co29), (.slice Ao30 t171.length co30)] 25 (0, 0))) ∧ Aside0 (Below w.heap.size w w'))
              case atStart => exact ⟨(0), (by first | rfl | (simp; done) | (simp [*]; done)), H', ⟨Nat.le_refl _⟩, ⟨by (with_reducible repeat (first | apply Kd.S_alloc | apply Kd.S_drewN | apply Kd.S_drew)); exact HO_3.out⟩, ⟨by (with_reducible repeat (first | apply Kd.V_alloc | apply Kd.V_drewN | apply Kd.V_drew)); exact HO_176001.out⟩, ⟨by (with_reducible repeat (first | apply Kd.V_alloc | apply Kd.V_drewN | apply Kd.V_drew)); exact HO_176002.out⟩, ⟨by (with_reducible repeat (first | refine blk_drewN ?_ _ | refine blk_drew ?_ | refine blk_alloc ?_ _)); exact BK160.out⟩, ⟨by (with_reducible repeat (first | refine blk_drewN ?_ _ | refine blk_drew ?_ | refine blk_alloc ?_ _)); exact BK175.out⟩, ⟨by repeat (first | (with_reducible first | exact HB.out | apply below_alloc | apply pw_below_drewN | apply below_drew1 | refine below_set ?_ GE160.out | refine below_set ?_ GE175.out) | exact HB.out)⟩⟩
              case round =>
                clear H'
                try clear c1
                try clear c2
                try clear p2
                try clear c3
                try clear c5
                try clear c6
                try clear c9
                try clear c9b0
                try clear c9b1
                try clear c10
                try clear c11
                try clear c19
                try clear c25
                try clear c27
                try clear c31
                try clear c33
                try clear c36
                try clear hcz10_0
                try clear hcz10_1
                try clear hcz10_2
                try clear hcz12_0
                try clear hcz12_1
                try clear hcz12_2
                try clear hcz14_0
                try clear hcz14_1
                try clear hcz14_2
                try clear hcz15_0
                try clear hcz15_1
                try clear hcz15_2
                try clear hcz17_0
                try clear hcz17_1
                try clear hcz17_2
                try clear hcz24_0
                try clear hcz24_1
                try clear hcz24_2
                try clear hcz28_0
                try clear hcz28_1
                try clear hcz28_2
                try clear hcz34_0
                try clear hcz34_1
                try clear hcz34_2
                try clear hcz6_0
                try clear hcz6_1
                try clear hcz6_2
                try clear hfz10_0
                try clear hfz10_1
                try clear hfz10_2
                try clear hfz12_0
                try clear hfz12_1
                try clear hfz12_2
                try clear hfz14_0
                try clear hfz14_1
                try clear hfz14_2
                try clear hfz15_0
                try clear hfz15_1
                try clear hfz15_2
                try clear hfz17_0
                try clear hfz17_1
                try clear hfz17_2
                try clear hfz24_0
                try clear hfz24_1
                try clear hfz24_2
                try clear hfz28_0
                try clear hfz28_1
                try clear hfz28_2
                try clear hfz34_0
                try clear hfz34_1
                try clear hfz34_2
                try clear hfz6_0
                try clear hfz6_1
                try clear hfz6_2
                try clear p2
                obtain ⟨x39_3, rfl, HA, HK3, HO_37, HO_176001, HO_176002, BK160, BK175, HB⟩ := hrel
                cases gk with
                | zero => exact absurd HA.out (by simp [lookoutlaw50_NetworkEnds.l0])
                | succ k3 =>
                  have H := HA.out
                  clear HA
                  simp only [lookoutlaw50_NetworkEnds.l0] at H
                  by_cases c38 : x39_3 < (t164.length : Int)
                  · rw [if_pos c38] at H
                    have c38b0 : decide (x39_3 < (t164.length : Int)) = true := decide_eq_true c38
                    clear c38
                    by_cases c39 : 0 ≤ x39_3
                    · rw [if_pos c39] at H
                      have c39b0 : decide (0 ≤ x39_3) = true := decide_eq_true c39
                      clear c39
                      by_cases c40 : x39_3 < (t164.length : Int)
                      · rw [if_pos c40] at H
                        have c40b0 : decide (x39_3 < (t164.length : Int)) = true := decide_eq_true c40
                        clear c40
                        have H' := Aside0.mk H
                        clear H
                        have p178 : 0 ≤ (x39_3 : Int) := of_decide_eq_true (by first | (with_reducible assumption) | assumption)
                        have q178 : x39_3 < (t164.length : Int) := of_decide_eq_true (by first | (with_reducible assumption) | assumption)
                        obtain ⟨ad178, A178_0, c178_0, e178, hx178_0, hl178_0, hi178_0⟩ := at_L7 (Kd.S_reads' HO_37.out).2.2 x39_3 p178 q178
                        cases e178
                        obtain ⟨ce178, hce178, hMe178, hcc178⟩ := Kd.S_get HO_37.out [] x39_3 p178 (by first | exact q178 | exact of_decide_eq_true (by first | (with_reducible assumption) | assumption) | (have e_ := (Kd.S_reads' HO_37.out).1; omega))
                        obtain ⟨ve178_0, rfl, ge178_0⟩ := hMe178
                        have hv178_0 := hcc178 0 _ rfl
                        rw [Nat.add_zero, show ((Kd.slice 27 k27)).sz = 1 from rfl, Nat.mul_one] at hv178_0
                        replace hv178_0 := Option.some.inj (hv178_0.symm.trans hx178_0)
                        rw [hv178_0] at ge178_0
                        have HL178_0 := Aside0.mk (show Kd.R k27 27 _ _ _ _ (rd_L7 t164 x39_3) from ge178_0)
                        clear hv178_0 ge178_0
                        clear hcc178 hce178
                        have HR178_0 := Aside0.mk hi178_0
                        have HC178_0 := Aside0.mk hl178_0
                        clear hi178_0 hl178_0
                        have P178 := Aside0.mk (And.intro p178 q178)
                        replace p178 := eq_true p178
                        replace q178 := eq_true q178
                        have hnb41 := NB160_175.out
                        have hnc41 := NB175_160.out
                        have hcz42_0 : wr.cell? ⟨gb160, 0, none⟩ = some (.int .i64 a0_0) := (blk_cell BK160.out 0).trans rfl
                        have hcz42_1 : wr.cell? ⟨gb160, 1, none⟩ = some (.slice A0_1 l0_1.length c0_1) := (blk_cell BK160.out 1).trans rfl
                        have hcz42_2 : wr.cell? ⟨gb160, 2, none⟩ = some (.slice A0_2 l0_2.length c0_2) := (blk_cell BK160.out 2).trans rfl
                        have hfz42_0 := blk_frozen BK160.out 0
                        have hfz42_1 := blk_frozen BK160.out 1
                        have hfz42_2 := blk_frozen BK160.out 2
                        go_wp2
                        go_loopg [8, 47] k3 (fun kq v8 v47 w' => ∃ (x8_4 : List (S27)) (x47_4 : Int), v47 = .int .i64 x47_4 ∧ Aside0 (lookoutlaw50_NetworkEnds.l1 kq x39_3 (rd_L7 t164 x39_3) x8_4 t164 (t164.length : Int) x39_3 l0_2 (l0_2.length : Int) x47_4 a0_0 l0_1 l0_2 = some r) ∧ Aside0 (kq ≤ k3) ∧ Aside0 (Kd.R k27 27 w' w.heap.size (fun _ => True) v8 x8_4) ∧ Aside0 (Kd.S (Kd.slice 27 k27) 38 w' w.heap.size (fun k_ => some k_ ≠ (v8 : Value).ownBlock) (.slice (some ad178) t164.length co37) t164) ∧ Aside0 (Kd.V (Kd.int .i64) 3 w' w.heap.size (fun k_ => some k_ ≠ (v8 : Value).ownBlock ∧ some k_ ≠ ((.slice (some ad178) t164.length co37) : Value).ownBlock ∧ k_ ≠ gb160 ∧ k_ ≠ gb175) (.slice Ao29 t168.length co29) t168) ∧ Aside0 (Kd.V k44 44 w' w.heap.size (fun k_ => some k_ ≠ (v8 : Value).ownBlock ∧ some k_ ≠ ((.slice (some ad178) t164.length co37) : Value).ownBlock ∧ k_ ≠ gb160 ∧ k_ ≠ gb175) (.slice Ao30 t171.length co30) t171) ∧ Aside0 (w'.heap[gb160]? = some (.cells #[.int .i64 a0_0, (.slice A0_1 l0_1.length c0_1), (.slice A0_2 l0_2.length c0_2)] 25 (0, 0))) ∧ Aside0 (w'.heap[gb175]? = some (.cells #[.int .i64 t167, (.slice Ao29 t168.length co29), (.slice Ao30 t171.length co30)] 25 (0, 0))) ∧ Aside0 (w'.cell? (ad178.add (x39_3 : Int).toNat) = some (.slice A178_0 (rd_L7 t164 x39_3).length c178_0)) ∧ Aside0 (Below w.heap.size w w'))
                        case atStart => exact ⟨(([] : List (S27))), (0), (by first | rfl | (simp; done) | (simp [*]; done)), H', ⟨Nat.le_refl _⟩, ⟨by first | exact Kd.R_nil _ _ _ _ _ | exact Kd.N_nil _ _ _ _ _ | exact Kd.V_nil _ _ _ _ _ | exact Kd.Q_nil _ _ _ _ _ | exact Kd.S_nil _ _ _ _ _⟩, ⟨by (with_reducible repeat (first | apply Kd.S_alloc | apply Kd.S_drewN | apply Kd.S_drew)); exact Kd.S_mono HO_37.out (fun _ hk => (by simp [Value.ownBlock]))⟩, ⟨by (with_reducible repeat (first | apply Kd.V_alloc | apply Kd.V_drewN | apply Kd.V_drew)); exact Kd.V_mono HO_176001.out (fun _ hk => ⟨(by simp [Value.ownBlock]), ⟨hk.1, ⟨hk.2.1, hk.2.2⟩⟩⟩)⟩, ⟨by (with_reducible repeat (first | apply Kd.V_alloc | apply Kd.V_drewN | apply Kd.V_drew)); exact Kd.V_mono HO_176002.out (fun _ hk => ⟨(by simp [Value.ownBlock]), ⟨hk.1, ⟨hk.2.1, hk.2.2⟩⟩⟩)⟩, ⟨by (with_reducible repeat (first | refine blk_drewN ?_ _ | refine blk_drew ?_ | refine blk_alloc ?_ _)); exact BK160.out⟩, ⟨by (with_reducible repeat (first | refine blk_drewN ?_ _ | refine blk_drew ?_ | refine blk_alloc ?_ _)); exact BK175.out⟩, ⟨hx178_0⟩, ⟨by repeat (first | (with_reducible first | exact HB.out | apply below_alloc | apply pw_below_drewN | apply below_drew1 | refine below_set ?_ GE160.out | refine below_set ?_ GE175.out) | exact HB.out)⟩⟩
                        case round =>
                          clear H'
                          try clear c1
                          try clear p1
                          try clear q1
                          try clear hx1
                          try clear c2
                          try clear p2
                          try clear c3
                          try clear c4
                          try clear c5
                          try clear c6
                          try clear c9
                          try clear c9b0
                          try clear c9b1
                          try clear c10
                          try clear c11
                          try clear c17
                          try clear p17
                          try clear q17
                          try clear hx17
                          try clear c19
                          try clear c25
                          try clear c27
                          try clear c31
                          try clear c33
                          try clear c36
                          try clear c38
                          try clear c38b0
                          try clear c39
                          try clear c39b0
                          try clear c40
                          try clear c40b0
                          try clear c41
                          try clear hcz10_0
                          try clear hcz10_1
                          try clear hcz10_2
                          try clear hcz12_0
                          try clear hcz12_1
                          try clear hcz12_2
                          try clear hcz14_0
                          try clear hcz14_1
                          try clear hcz14_2
                          try clear hcz15_0
                          try clear hcz15_1
                          try clear hcz15_2
                          try clear hcz17_0
                          try clear hcz17_1
                          try clear hcz17_2
                          try clear hcz24_0
                          try clear hcz24_1
                          try clear hcz24_2
                          try clear hcz28_0
                          try clear hcz28_1
                          try clear hcz28_2
                          try clear hcz34_0
                          try clear hcz34_1
                          try clear hcz34_2
                          try clear hcz42_0
                          try clear hcz42_1
                          try clear hcz42_2
                          try clear hcz6_0
                          try clear hcz6_1
                          try clear hcz6_2
                          try clear hfz10_0
                          try clear hfz10_1
                          try clear hfz10_2
                          try clear hfz12_0
                          try clear hfz12_1
                          try clear hfz12_2
                          try clear hfz14_0
                          try clear hfz14_1
                          try clear hfz14_2
                          try clear hfz15_0
                          try clear hfz15_1
                          try clear hfz15_2
                          try clear hfz17_0
                          try clear hfz17_1
                          try clear hfz17_2
                          try clear hfz24_0
                          try clear hfz24_1
                          try clear hfz24_2
                          try clear hfz28_0
                          try clear hfz28_1
                          try clear hfz28_2
                          try clear hfz34_0
                          try clear hfz34_1
                          try clear hfz34_2
                          try clear hfz42_0
                          try clear hfz42_1
                          try clear hfz42_2
                          try clear hfz6_0
                          try clear hfz6_1
                          try clear hfz6_2
                          try clear hx178_0
                          try clear p178
                          try clear p2
                          try clear q178
                          obtain ⟨x8_4, x47_4, rfl, HA, HK4, HO_8, HO_37, HO_176001, HO_176002, BK160, BK175, HX37, HB⟩ := hrel
                          cases gk with
                          | zero => exact absurd HA.out (by simp [lookoutlaw50_NetworkEnds.l1])
                          | succ k4 =>
                            have H := HA.out
                            clear HA
                            simp only [lookoutlaw50_NetworkEnds.l1] at H
                            by_cases c43 : x47_4 < (l0_2.length : Int)
                            · rw [if_pos c43] at H
                              have c43b0 : decide (x47_4 < (l0_2.length : Int)) = true := decide_eq_true c43
                              clear c43
                              by_cases c44 : 0 ≤ x47_4
                              · rw [if_pos c44] at H
                                have c44b0 : decide (0 ≤ x47_4) = true := decide_eq_true c44
                                clear c44
                                by_cases c45 : x47_4 < (l0_2.length : Int)
                                · rw [if_pos c45] at H
                                  have c45b0 : decide (x47_4 < (l0_2.length : Int)) = true := decide_eq_true c45
                                  clear c45
                                  by_cases c46 : ((rd_T44 l0_2 x47_4).f0) = (wrap64 ((wrap64 (a0_0 + x39_3)) + 1))
                                  · rw [if_pos c46] at H
                                    have c46b0 : (((rd_T44 l0_2 x47_4).f0) == (wrap64 ((wrap64 (a0_0 + x39_3)) + 1))) = true := beq_iff_eq.mpr c46
                                    have c46b1 : (((rd_T44 l0_2 x47_4).f0) != (wrap64 ((wrap64 (a0_0 + x39_3)) + 1))) = false := bne_eq_false_iff_eq.mpr c46
                                    clear c46
                                    by_cases c47 : x8_4.length < 4398046511104
                                    · rw [if_pos c47] at H
                                      have LMc47 := Aside0.mk c47
                                      clear c47
                                      obtain ⟨y181, hy181⟩ : ∃ y_ : List (S27), y_ = (x8_4 ++ [(⟨(rd_T44 l0_2 x47_4).f1.f0, (rd_T44 l0_2 x47_4).f1.f1, (rd_T44 l0_2 x47_4).f1.f2⟩ : S27)]) := ⟨_, rfl⟩
                                      replace H : (lookoutlaw50_NetworkEnds.l1 k4 x39_3 (rd_L7 t164 x39_3) y181 t164 (t164.length : Int) x39_3 l0_2 (l0_2.length : Int) (wrap64 (x47_4 + 1)) a0_0 l0_1 l0_2) = some r := by first | (rw [hy181]; with_reducible exact H) | (have H2_ := (Option.bind_some _ _).symm.trans H; rw [hy181]; with_reducible exact H2_) | (have H2_ := (Option.bind_some _ _).symm.trans H; with_reducible exact H2_) | with_reducible exact H | (rw [hy181]; exact H) | exact H
                                      have Ny181 := Aside0.mk hy181
                                      clear hy181
                                      have H' := Aside0.mk H
                                      clear H
                                      have p179 : 0 ≤ (x47_4 : Int) := of_decide_eq_true (by first | (with_reducible assumption) | assumption)
                                      have q179 : x47_4 < (l0_2.length : Int) := of_decide_eq_true (by first | (with_reducible assumption) | assumption)
                                      obtain ⟨ad179, e179, hx179_0, hx179_1, hx179_2, hx179_3⟩ := at_T44 HR0_2.out x47_4 p179 q179
                                      cases e179
                                      replace hx179_0 := (HB.out.cell (World.block_lt_of_cell? w _ hx179_0)).trans hx179_0
                                      replace hx179_1 := (HB.out.cell (World.block_lt_of_cell? w _ hx179_1)).trans hx179_1
                                      replace hx179_2 := (HB.out.cell (World.block_lt_of_cell? w _ hx179_2)).trans hx179_2
                                      replace hx179_3 := (HB.out.cell (World.block_lt_of_cell? w _ hx179_3)).trans hx179_3
                                      replace p179 := eq_true p179
                                      replace q179 := eq_true q179
                                      go_wp2_with (first | ((with_reducible refine gate_dst (N := 10) rfl ?_); refine box_event ?hg (N := 10) ?hd (cs := #[.int .i64 0, .int .i64 0, .int .i64 0, .string (⟨#[]⟩ : ByteArray)]) (t := 44) ?hr ?_; (case hd => rfl); (case hg => rfl); (case hr => first | (go_simp; done) | (go_simp; rfl)); intro gb180 hg w48 hbox hb; have n0_ := Aside0.mk (Kd.R_below (by (with_reducible repeat (first | apply Kd.R_alloc | apply Kd.R_drewN | apply Kd.R_drew)); exact HO_8.out) hb); have n1_ := Aside0.mk (Kd.S_below (by (with_reducible repeat (first | apply Kd.S_alloc | apply Kd.S_drewN | apply Kd.S_drew)); exact HO_37.out) hb); have n2_ := Aside0.mk (Kd.V_below (Kd.V_elderB (by (with_reducible repeat (first | apply Kd.V_alloc | apply Kd.V_drewN | apply Kd.V_drew)); exact HO_176001.out) gb180 (Nat.le_of_eq hg.symm)) hb); have n3_ := Aside0.mk (Kd.V_below (Kd.V_elderB (by (with_reducible repeat (first | apply Kd.V_alloc | apply Kd.V_drewN | apply Kd.V_drew)); exact HO_176002.out) gb180 (Nat.le_of_eq hg.symm)) hb); have n4_ := Aside0.mk (blk_below (g := gb160) (o := .cells #[.int .i64 a0_0, .slice A0_1 l0_1.length c0_1, .slice (some ad179) l0_2.length c0_2] 25 (0, 0)) (by (with_reducible repeat (first | refine blk_drewN ?_ _ | refine blk_drew ?_ | refine blk_alloc ?_ _)); exact BK160.out) hb); have n5_ := Aside0.mk (blk_below (g := gb175) (o := .cells #[.int .i64 t167, .slice Ao29 t168.length co29, .slice Ao30 t171.length co30] 25 (0, 0)) (by (with_reducible repeat (first | refine blk_drewN ?_ _ | refine blk_drew ?_ | refine blk_alloc ?_ _)); exact BK175.out) hb); have n6_ := Aside0.mk (below_step (by repeat (first | (with_reducible first | exact HB.out | apply below_alloc | apply pw_below_drewN | apply below_drew1 | refine below_set ?_ GE160.out | refine below_set ?_ GE175.out) | exact HB.out)) hb); have n7_ := Aside0.mk (hbox); have n8_ := Aside0.mk ((by rw [hg]; exact (below_size (by repeat (first | (with_reducible first | exact HB.out | apply below_alloc | apply pw_below_drewN | apply below_drew1 | refine below_set ?_ GE160.out | refine below_set ?_ GE175.out) | exact HB.out))) : w.heap.size ≤ gb180)); have n9_ := Aside0.mk ((by rw [hg]; exact (below_size (by repeat (first | (with_reducible first | exact HB.out | apply below_alloc | apply pw_below_drewN | apply below_drew1 | refine below_set ?_ GE160.out | refine below_set ?_ GE175.out) | exact HB.out))) : w.heap.size ≤ gb180)); have n10_ := Aside0.mk ((by rw [hg]; exact Nat.ne_of_lt (blk_lt (g := gb160) (o := .cells #[.int .i64 a0_0, .slice A0_1 l0_1.length c0_1, .slice (some ad179) l0_2.length c0_2] 25 (0, 0)) (by (with_reducible repeat (first | refine blk_drewN ?_ _ | refine blk_drew ?_ | refine blk_alloc ?_ _)); exact BK160.out)) : gb160 ≠ gb180)); have n11_ := Aside0.mk ((by rw [hg]; exact Nat.ne_of_gt (blk_lt (g := gb160) (o := .cells #[.int .i64 a0_0, .slice A0_1 l0_1.length c0_1, .slice (some ad179) l0_2.length c0_2] 25 (0, 0)) (by (with_reducible repeat (first | refine blk_drewN ?_ _ | refine blk_drew ?_ | refine blk_alloc ?_ _)); exact BK160.out)) : gb180 ≠ gb160)); have n12_ := Aside0.mk ((by rw [hg]; exact Nat.ne_of_lt (blk_lt (g := gb175) (o := .cells #[.int .i64 t167, .slice Ao29 t168.length co29, .slice Ao30 t171.length co30] 25 (0, 0)) (by (with_reducible repeat (first | refine blk_drewN ?_ _ | refine blk_drew ?_ | refine blk_alloc ?_ _)); exact BK175.out)) : gb175 ≠ gb180)); have n13_ := Aside0.mk ((by rw [hg]; exact Nat.ne_of_gt (blk_lt (g := gb175) (o := .cells #[.int .i64 t167, .slice Ao29 t168.length co29, .slice Ao30 t171.length co30] 25 (0, 0)) (by (with_reducible repeat (first | refine blk_drewN ?_ _ | refine blk_drew ?_ | refine blk_alloc ?_ _)); exact BK175.out)) : gb180 ≠ gb175)); have HX37b := Aside0.mk (pw_cell_below hb HX37.out); clear HX37; have HX37 := HX37b; clear HX37b; clear HO_8; clear HO_37; clear HO_176001; clear HO_176002; clear BK160; clear BK175; clear HB; have HO_8 := n0_; have HO_37 := n1_; have HO_176001 := n2_; have HO_176002 := n3_; have BK160 := n4_; have BK175 := n5_; have HB := n6_; have BK180 := n7_; have GW180 := n8_; have GE180 := n9_; have NB160_180 := n10_; have NB180_160 := n11_; have NB175_180 := n12_; have NB180_175 := n13_; clear n0_ n1_ n2_ n3_ n4_ n5_ n6_ n7_ n8_ n9_ n10_ n11_ n12_ n13_; clear hb hbox hg; have hnb49 := NB180_160.out; have hnc49 := NB160_180.out; have hnb50 := NB180_175.out; have hnc50 := NB175_180.out; have hcz51_0 : w48.cell? ⟨gb180, 0, none⟩ = some (.int .i64 0) := (blk_cell BK180.out 0).trans rfl; have hcz51_1 : w48.cell? ⟨gb180, 1, none⟩ = some (.int .i64 0) := (blk_cell BK180.out 1).trans rfl; have hcz51_2 : w48.cell? ⟨gb180, 2, none⟩ = some (.int .i64 0) := (blk_cell BK180.out 2).trans rfl; have hcz51_3 : w48.cell? ⟨gb180, 3, none⟩ = some (.string (⟨#[]⟩ : ByteArray)) := (blk_cell BK180.out 3).trans rfl; have hfz51_0 := blk_frozen BK180.out 0; have hfz51_1 := blk_frozen BK180.out 1; have hfz51_2 := blk_frozen BK180.out 2; have hfz51_3 := blk_frozen BK180.out 3; have hnb52 := NB160_175.out; have hnc52 := NB175_160.out; have hcz53_0 : w48.cell? ⟨gb160, 0, none⟩ = some (.int .i64 a0_0) := (blk_cell BK160.out 0).trans rfl; have hcz53_1 : w48.cell? ⟨gb160, 1, none⟩ = some (.slice A0_1 l0_1.length c0_1) := (blk_cell BK160.out 1).trans rfl; have hcz53_2 : w48.cell? ⟨gb160, 2, none⟩ = some (.slice (some ad179) l0_2.length c0_2) := (blk_cell BK160.out 2).trans rfl; have hfz53_0 := blk_frozen BK160.out 0; have hfz53_1 := blk_frozen BK160.out 1; have hfz53_2 := blk_frozen BK160.out 2) | ((with_reducible refine gate_builtin (b := .append) (xs := #[.tmp 59, .tmp 62]) rfl ?_); at_builtin; refine Kd.R_append k27 (w0 := w) w.heap.size rfl (.tmp 59) (.tmp 62) 38 27 (.agg #[(.int .i64 0), (.int .i64 0), (.string ⟨#[]⟩)]) 32 rfl Try.underlying38 info27 rfl (by decide) (by omega) u8 x8_4 (⟨(rd_T44 l0_2 x47_4).f1.f0, (rd_T44 l0_2 x47_4).f1.f1, (rd_T44 l0_2 x47_4).f1.f2⟩ : S27) [.int .i64 ((rd_T44 l0_2 x47_4).f1.f0), .int .i64 ((rd_T44 l0_2 x47_4).f1.f1), .string ((rd_T44 l0_2 x47_4).f1.f2)] (fun _ => True) (fun _ => False) rfl (by first | (go_simp; done) | (go_simp; rfl)) ?aP (fun _ hk => hk.elim) ?aF ?aO ?aB ?aS ?aL ?_; (case aP => exact k27_mkM _ _ _ (⟨(rd_T44 l0_2 x47_4).f1.f0, (rd_T44 l0_2 x47_4).f1.f1, (rd_T44 l0_2 x47_4).f1.f2⟩ : S27)); (case aB => exact (by repeat (first | (with_reducible first | exact HB.out | apply below_alloc | apply pw_below_drewN | apply below_drew1 | refine below_set ?_ GE160.out | refine below_set ?_ GE175.out | refine below_set ?_ GE180.out) | exact HB.out))); (case aF => exact (fun _ _ => trivial)); (case aO => exact (by (with_reducible repeat (first | apply Kd.R_alloc | apply Kd.R_drewN | apply Kd.R_drew)); exact Kd.R_mono (Kd.R_far (p := ⟨gb180, 3, none⟩) (Kd.R_far (p := ⟨gb180, 2, none⟩) (Kd.R_far (p := ⟨gb180, 1, none⟩) (Kd.R_far (p := ⟨gb180, 0, none⟩) (Kd.R_types HO_8.out BK180.out (by decide)) (fun _ hk => hk.2) (.int .i64 ((rd_T44 l0_2 x47_4).f0))) (fun _ hk => hk.2) (.int .i64 ((rd_T44 l0_2 x47_4).f1.f0))) (fun _ hk => hk.2) (.int .i64 ((rd_T44 l0_2 x47_4).f1.f1))) (fun _ hk => hk.2) (.string ((rd_T44 l0_2 x47_4).f1.f2))) (fun _ hk => trivial))); (case aS => exact (below_size (by repeat (first | (with_reducible first | exact HB.out | apply below_alloc | apply pw_below_drewN | apply below_drew1 | refine below_set ?_ GE160.out | refine below_set ?_ GE175.out | refine below_set ?_ GE180.out) | exact HB.out)))); (case aL => have := LMc47.out; omega); intro v182 w54 ho hb hg hat; rw [← Ny181.out] at ho; have hbk_ : (ad178.add (x39_3 : Int).toNat).block ≠ gb180 := (by obtain ⟨_, h0_, _⟩ := Kd.S_types HO_37.out BK180.out (by decide); have h9_ := (h0_ ad178.block rfl).2; unfold Addr.add; split <;> exact h9_); have HX37b := Aside0.mk (cell_grown hg ((cell_far hbk_ _).trans ((cell_far hbk_ _).trans ((cell_far hbk_ _).trans ((cell_far hbk_ _).trans HX37.out)))) (by obtain ⟨_, h0_, _⟩ := HO_37.out; have h9_ := h0_ ad178.block rfl; unfold Addr.add; split <;> exact h9_)); clear HX37; have HX37 := HX37b; clear HX37b; have n0_ := Aside0.mk (Kd.S_after (ok := (fun _ => True)) (by (with_reducible repeat (first | apply Kd.S_alloc | apply Kd.S_drewN | apply Kd.S_drew)); exact Kd.S_mono (Kd.S_far (p := ⟨gb180, 3, none⟩) (Kd.S_far (p := ⟨gb180, 2, none⟩) (Kd.S_far (p := ⟨gb180, 1, none⟩) (Kd.S_far (p := ⟨gb180, 0, none⟩) (Kd.S_types HO_37.out BK180.out (by decide)) (fun _ hk => hk.2) (.int .i64 ((rd_T44 l0_2 x47_4).f0))) (fun _ hk => hk.2) (.int .i64 ((rd_T44 l0_2 x47_4).f1.f0))) (fun _ hk => hk.2) (.int .i64 ((rd_T44 l0_2 x47_4).f1.f1))) (fun _ hk => hk.2) (.string ((rd_T44 l0_2 x47_4).f1.f2))) (fun _ hk => ⟨trivial, hk.1⟩)) hg hat); have n1_ := Aside0.mk (Kd.V_afterv (ok := (fun k_ => some k_ ≠ (.slice (some ad178) t164.length co37 : Value).ownBlock ∧ k_ ≠ gb160 ∧ k_ ≠ gb175 ∧ k_ ≠ gb180)) (by (with_reducible repeat (first | apply Kd.V_alloc | apply Kd.V_drewN | apply Kd.V_drew)); exact Kd.V_mono (Kd.V_far (p := ⟨gb180, 3, none⟩) (Kd.V_far (p := ⟨gb180, 2, none⟩) (Kd.V_far (p := ⟨gb180, 1, none⟩) (Kd.V_far (p := ⟨gb180, 0, none⟩) (Kd.V_mono HO_176001.out (fun k_ hk => (⟨hk, hk.2⟩ : _ ∧ k_ ≠ gb180))) (fun _ hk => hk.2) (.int .i64 ((rd_T44 l0_2 x47_4).f0))) (fun _ hk => hk.2) (.int .i64 ((rd_T44 l0_2 x47_4).f1.f0))) (fun _ hk => hk.2) (.int .i64 ((rd_T44 l0_2 x47_4).f1.f1))) (fun _ hk => hk.2) (.string ((rd_T44 l0_2 x47_4).f1.f2))) (fun _ hk => ⟨⟨hk.1.1.2.1, ⟨hk.1.1.2.2.1, ⟨hk.1.1.2.2.2, hk.1.2⟩⟩⟩, hk.1.1.1⟩)) hg hat); have n2_ := Aside0.mk (Kd.V_afterv (ok := (fun k_ => some k_ ≠ (.slice (some ad178) t164.length co37 : Value).ownBlock ∧ k_ ≠ gb160 ∧ k_ ≠ gb175 ∧ k_ ≠ gb180)) (by (with_reducible repeat (first | apply Kd.V_alloc | apply Kd.V_drewN | apply Kd.V_drew)); exact Kd.V_mono (Kd.V_far (p := ⟨gb180, 3, none⟩) (Kd.V_far (p := ⟨gb180, 2, none⟩) (Kd.V_far (p := ⟨gb180, 1, none⟩) (Kd.V_far (p := ⟨gb180, 0, none⟩) (Kd.V_mono HO_176002.out (fun k_ hk => (⟨hk, hk.2⟩ : _ ∧ k_ ≠ gb180))) (fun _ hk => hk.2) (.int .i64 ((rd_T44 l0_2 x47_4).f0))) (fun _ hk => hk.2) (.int .i64 ((rd_T44 l0_2 x47_4).f1.f0))) (fun _ hk => hk.2) (.int .i64 ((rd_T44 l0_2 x47_4).f1.f1))) (fun _ hk => hk.2) (.string ((rd_T44 l0_2 x47_4).f1.f2))) (fun _ hk => ⟨⟨hk.1.1.2.1, ⟨hk.1.1.2.2.1, ⟨hk.1.1.2.2.2, hk.1.2⟩⟩⟩, hk.1.1.1⟩)) hg hat); have n3_ := Aside0.mk (blk_grown (g := gb160) (o := .cells #[.int .i64 a0_0, .slice A0_1 l0_1.length c0_1, .slice (some ad179) l0_2.length c0_2] 25 (0, 0)) (by (with_reducible repeat (first | refine blk_drewN ?_ _ | refine blk_drew ?_ | refine blk_alloc ?_ _)); refine blk_far ?_ NB160_180.out _; (with_reducible repeat (first | refine blk_drewN ?_ _ | refine blk_drew ?_ | refine blk_alloc ?_ _)); refine blk_far ?_ NB160_180.out _; (with_reducible repeat (first | refine blk_drewN ?_ _ | refine blk_drew ?_ | refine blk_alloc ?_ _)); refine blk_far ?_ NB160_180.out _; (with_reducible repeat (first | refine blk_drewN ?_ _ | refine blk_drew ?_ | refine blk_alloc ?_ _)); refine blk_far ?_ NB160_180.out _; (with_reducible repeat (first | refine blk_drewN ?_ _ | refine blk_drew ?_ | refine blk_alloc ?_ _)); exact BK160.out) hg (Kd.R_ne HO_8.out BK160.out (by decide))); have n4_ := Aside0.mk (blk_grown (g := gb175) (o := .cells #[.int .i64 t167, .slice Ao29 t168.length co29, .slice Ao30 t171.length co30] 25 (0, 0)) (by (with_reducible repeat (first | refine blk_drewN ?_ _ | refine blk_drew ?_ | refine blk_alloc ?_ _)); refine blk_far ?_ NB175_180.out _; (with_reducible repeat (first | refine blk_drewN ?_ _ | refine blk_drew ?_ | refine blk_alloc ?_ _)); refine blk_far ?_ NB175_180.out _; (with_reducible repeat (first | refine blk_drewN ?_ _ | refine blk_drew ?_ | refine blk_alloc ?_ _)); refine blk_far ?_ NB175_180.out _; (with_reducible repeat (first | refine blk_drewN ?_ _ | refine blk_drew ?_ | refine blk_alloc ?_ _)); refine blk_far ?_ NB175_180.out _; (with_reducible repeat (first | refine blk_drewN ?_ _ | refine blk_drew ?_ | refine blk_alloc ?_ _)); exact BK175.out) hg (Kd.R_ne HO_8.out BK175.out (by decide))); have n5_ := Aside0.mk (blk_grown (g := gb180) (o := .cells #[.int .i64 ((rd_T44 l0_2 x47_4).f0), .int .i64 ((rd_T44 l0_2 x47_4).f1.f0), .int .i64 ((rd_T44 l0_2 x47_4).f1.f1), .string ((rd_T44 l0_2 x47_4).f1.f2)] 44 (0, 0)) (by (with_reducible repeat (first | refine blk_drewN ?_ _ | refine blk_drew ?_ | refine blk_alloc ?_ _)); refine blk_put (cs := #[.int .i64 ((rd_T44 l0_2 x47_4).f0), .int .i64 ((rd_T44 l0_2 x47_4).f1.f0), .int .i64 ((rd_T44 l0_2 x47_4).f1.f1), .string (⟨#[]⟩ : ByteArray)]) ?_ 3 _ rfl; (with_reducible repeat (first | refine blk_drewN ?_ _ | refine blk_drew ?_ | refine blk_alloc ?_ _)); refine blk_put (cs := #[.int .i64 ((rd_T44 l0_2 x47_4).f0), .int .i64 ((rd_T44 l0_2 x47_4).f1.f0), .int .i64 0, .string (⟨#[]⟩ : ByteArray)]) ?_ 2 _ rfl; (with_reducible repeat (first | refine blk_drewN ?_ _ | refine blk_drew ?_ | refine blk_alloc ?_ _)); refine blk_put (cs := #[.int .i64 ((rd_T44 l0_2 x47_4).f0), .int .i64 0, .int .i64 0, .string (⟨#[]⟩ : ByteArray)]) ?_ 1 _ rfl; (with_reducible repeat (first | refine blk_drewN ?_ _ | refine blk_drew ?_ | refine blk_alloc ?_ _)); refine blk_put (cs := #[.int .i64 0, .int .i64 0, .int .i64 0, .string (⟨#[]⟩ : ByteArray)]) ?_ 0 _ rfl; (with_reducible repeat (first | refine blk_drewN ?_ _ | refine blk_drew ?_ | refine blk_alloc ?_ _)); exact BK180.out) hg (Kd.R_ne HO_8.out BK180.out (by decide))); have n6_ := Aside0.mk (hb); have n7_ := Aside0.mk (ho); clear HO_37; clear HO_176001; clear HO_176002; clear BK160; clear BK175; clear BK180; clear HB; clear HO_8; have HO_37 := n0_; have HO_176001 := n1_; have HO_176002 := n2_; have BK160 := n3_; have BK175 := n4_; have BK180 := n5_; have HB := n6_; have HO183 := n7_; clear n0_ n1_ n2_ n3_ n4_ n5_ n6_ n7_; clear ho hb hg hat))
                                      go_roundg k4
                                      case measure => have := HJ1.out; have := HJ22.out; have := HK3.out; have := HK4.out; omega
                                      case rel => exact ⟨(y181), (wrap64 (x47_4 + 1)), (by first | rfl | (simp; done) | (simp [*]; done)), H', ⟨by have := HJ1.out; have := HJ22.out; have := HK3.out; have := HK4.out; omega⟩, ⟨by (with_reducible repeat (first | apply Kd.R_alloc | apply Kd.R_drewN | apply Kd.R_drew)); exact HO183.out⟩, ⟨by (with_reducible repeat (first | apply Kd.S_alloc | apply Kd.S_drewN | apply Kd.S_drew)); exact Kd.S_mono HO_37.out (fun _ hk => hk.2)⟩, ⟨by (with_reducible repeat (first | apply Kd.V_alloc | apply Kd.V_drewN | apply Kd.V_drew)); exact Kd.V_mono HO_176001.out (fun _ hk => ⟨hk.2, ⟨hk.1.1, ⟨hk.1.2.1, hk.1.2.2.1⟩⟩⟩)⟩, ⟨by (with_reducible repeat (first | apply Kd.V_alloc | apply Kd.V_drewN | apply Kd.V_drew)); exact Kd.V_mono HO_176002.out (fun _ hk => ⟨hk.2, ⟨hk.1.1, ⟨hk.1.2.1, hk.1.2.2.1⟩⟩⟩)⟩, ⟨by (with_reducible repeat (first | refine blk_drewN ?_ _ | refine blk_drew ?_ | refine blk_alloc ?_ _)); exact BK160.out⟩, ⟨by (with_reducible repeat (first | refine blk_drewN ?_ _ | refine blk_drew ?_ | refine blk_alloc ?_ _)); exact BK175.out⟩, ⟨HX37.out⟩, ⟨by repeat (first | (with_reducible first | exact HB.out | apply below_alloc | apply pw_below_drewN | apply below_drew1 | refine below_set ?_ GE160.out | refine below_set ?_ GE175.out | refine below_set ?_ GE180.out) | exact HB.out)⟩⟩
                                    · rw [if_neg c47] at H
                                      exact absurd H (by simp)
                                  · rw [if_neg c46] at H
                                    have c46b0 : (((rd_T44 l0_2 x47_4).f0) == (wrap64 ((wrap64 (a0_0 + x39_3)) + 1))) = false := beq_eq_false_iff_ne.mpr c46
                                    have c46b1 : (((rd_T44 l0_2 x47_4).f0) != (wrap64 ((wrap64 (a0_0 + x39_3)) + 1))) = true := bne_iff_ne.mpr c46
                                    have H' := Aside0.mk H
                                    clear H
                                    have p179 : 0 ≤ (x47_4 : Int) := of_decide_eq_true (by first | (with_reducible assumption) | assumption)
                                    have q179 : x47_4 < (l0_2.length : Int) := of_decide_eq_true (by first | (with_reducible assumption) | assumption)
                                    obtain ⟨ad179, e179, hx179_0, hx179_1, hx179_2, hx179_3⟩ := at_T44 HR0_2.out x47_4 p179 q179
                                    cases e179
                                    replace hx179_0 := (HB.out.cell (World.block_lt_of_cell? w _ hx179_0)).trans hx179_0
                                    replace hx179_1 := (HB.out.cell (World.block_lt_of_cell? w _ hx179_1)).trans hx179_1
                                    replace hx179_2 := (HB.out.cell (World.block_lt_of_cell? w _ hx179_2)).trans hx179_2
                                    replace hx179_3 := (HB.out.cell (World.block_lt_of_cell? w _ hx179_3)).trans hx179_3
                                    replace p179 := eq_true p179
                                    replace q179 := eq_true q179
                                    go_wp2_with (first | ((with_reducible refine gate_dst (N := 10) rfl ?_); refine box_event ?hg (N := 10) ?hd (cs := #[.int .i64 0, .int .i64 0, .int .i64 0, .string (⟨#[]⟩ : ByteArray)]) (t := 44) ?hr ?_; (case hd => rfl); (case hg => rfl); (case hr => first | (go_simp; done) | (go_simp; rfl)); intro gb180 hg w55 hbox hb; have n0_ := Aside0.mk (Kd.R_below (by (with_reducible repeat (first | apply Kd.R_alloc | apply Kd.R_drewN | apply Kd.R_drew)); exact HO_8.out) hb); have n1_ := Aside0.mk (Kd.S_below (by (with_reducible repeat (first | apply Kd.S_alloc | apply Kd.S_drewN | apply Kd.S_drew)); exact HO_37.out) hb); have n2_ := Aside0.mk (Kd.V_below (Kd.V_elderB (by (with_reducible repeat (first | apply Kd.V_alloc | apply Kd.V_drewN | apply Kd.V_drew)); exact HO_176001.out) gb180 (Nat.le_of_eq hg.symm)) hb); have n3_ := Aside0.mk (Kd.V_below (Kd.V_elderB (by (with_reducible repeat (first | apply Kd.V_alloc | apply Kd.V_drewN | apply Kd.V_drew)); exact HO_176002.out) gb180 (Nat.le_of_eq hg.symm)) hb); have n4_ := Aside0.mk (blk_below (g := gb160) (o := .cells #[.int .i64 a0_0, .slice A0_1 l0_1.length c0_1, .slice (some ad179) l0_2.length c0_2] 25 (0, 0)) (by (with_reducible repeat (first | refine blk_drewN ?_ _ | refine blk_drew ?_ | refine blk_alloc ?_ _)); exact BK160.out) hb); have n5_ := Aside0.mk (blk_below (g := gb175) (o := .cells #[.int .i64 t167, .slice Ao29 t168.length co29, .slice Ao30 t171.length co30] 25 (0, 0)) (by (with_reducible repeat (first | refine blk_drewN ?_ _ | refine blk_drew ?_ | refine blk_alloc ?_ _)); exact BK175.out) hb); have n6_ := Aside0.mk (below_step (by repeat (first | (with_reducible first | exact HB.out | apply below_alloc | apply pw_below_drewN | apply below_drew1 | refine below_set ?_ GE160.out | refine below_set ?_ GE175.out) | exact HB.out)) hb); have n7_ := Aside0.mk (hbox); have n8_ := Aside0.mk ((by rw [hg]; exact (below_size (by repeat (first | (with_reducible first | exact HB.out | apply below_alloc | apply pw_below_drewN | apply below_drew1 | refine below_set ?_ GE160.out | refine below_set ?_ GE175.out) | exact HB.out))) : w.heap.size ≤ gb180)); have n9_ := Aside0.mk ((by rw [hg]; exact (below_size (by repeat (first | (with_reducible first | exact HB.out | apply below_alloc | apply pw_below_drewN | apply below_drew1 | refine below_set ?_ GE160.out | refine below_set ?_ GE175.out) | exact HB.out))) : w.heap.size ≤ gb180)); have n10_ := Aside0.mk ((by rw [hg]; exact Nat.ne_of_lt (blk_lt (g := gb160) (o := .cells #[.int .i64 a0_0, .slice A0_1 l0_1.length c0_1, .slice (some ad179) l0_2.length c0_2] 25 (0, 0)) (by (with_reducible repeat (first | refine blk_drewN ?_ _ | refine blk_drew ?_ | refine blk_alloc ?_ _)); exact BK160.out)) : gb160 ≠ gb180)); have n11_ := Aside0.mk ((by rw [hg]; exact Nat.ne_of_gt (blk_lt (g := gb160) (o := .cells #[.int .i64 a0_0, .slice A0_1 l0_1.length c0_1, .slice (some ad179) l0_2.length c0_2] 25 (0, 0)) (by (with_reducible repeat (first | refine blk_drewN ?_ _ | refine blk_drew ?_ | refine blk_alloc ?_ _)); exact BK160.out)) : gb180 ≠ gb160)); have n12_ := Aside0.mk ((by rw [hg]; exact Nat.ne_of_lt (blk_lt (g := gb175) (o := .cells #[.int .i64 t167, .slice Ao29 t168.length co29, .slice Ao30 t171.length co30] 25 (0, 0)) (by (with_reducible repeat (first | refine blk_drewN ?_ _ | refine blk_drew ?_ | refine blk_alloc ?_ _)); exact BK175.out)) : gb175 ≠ gb180)); have n13_ := Aside0.mk ((by rw [hg]; exact Nat.ne_of_gt (blk_lt (g := gb175) (o := .cells #[.int .i64 t167, .slice Ao29 t168.length co29, .slice Ao30 t171.length co30] 25 (0, 0)) (by (with_reducible repeat (first | refine blk_drewN ?_ _ | refine blk_drew ?_ | refine blk_alloc ?_ _)); exact BK175.out)) : gb180 ≠ gb175)); have HX37b := Aside0.mk (pw_cell_below hb HX37.out); clear HX37; have HX37 := HX37b; clear HX37b; clear HO_8; clear HO_37; clear HO_176001; clear HO_176002; clear BK160; clear BK175; clear HB; have HO_8 := n0_; have HO_37 := n1_; have HO_176001 := n2_; have HO_176002 := n3_; have BK160 := n4_; have BK175 := n5_; have HB := n6_; have BK180 := n7_; have GW180 := n8_; have GE180 := n9_; have NB160_180 := n10_; have NB180_160 := n11_; have NB175_180 := n12_; have NB180_175 := n13_; clear n0_ n1_ n2_ n3_ n4_ n5_ n6_ n7_ n8_ n9_ n10_ n11_ n12_ n13_; clear hb hbox hg; have hnb56 := NB180_160.out; have hnc56 := NB160_180.out; have hnb57 := NB180_175.out; have hnc57 := NB175_180.out; have hcz58_0 : w55.cell? ⟨gb180, 0, none⟩ = some (.int .i64 0) := (blk_cell BK180.out 0).trans rfl; have hcz58_1 : w55.cell? ⟨gb180, 1, none⟩ = some (.int .i64 0) := (blk_cell BK180.out 1).trans rfl; have hcz58_2 : w55.cell? ⟨gb180, 2, none⟩ = some (.int .i64 0) := (blk_cell BK180.out 2).trans rfl; have hcz58_3 : w55.cell? ⟨gb180, 3, none⟩ = some (.string (⟨#[]⟩ : ByteArray)) := (blk_cell BK180.out 3).trans rfl; have hfz58_0 := blk_frozen BK180.out 0; have hfz58_1 := blk_frozen BK180.out 1; have hfz58_2 := blk_frozen BK180.out 2; have hfz58_3 := blk_frozen BK180.out 3; have hnb59 := NB160_175.out; have hnc59 := NB175_160.out; have hcz60_0 : w55.cell? ⟨gb160, 0, none⟩ = some (.int .i64 a0_0) := (blk_cell BK160.out 0).trans rfl; have hcz60_1 : w55.cell? ⟨gb160, 1, none⟩ = some (.slice A0_1 l0_1.length c0_1) := (blk_cell BK160.out 1).trans rfl; have hcz60_2 : w55.cell? ⟨gb160, 2, none⟩ = some (.slice (some ad179) l0_2.length c0_2) := (blk_cell BK160.out 2).trans rfl; have hfz60_0 := blk_frozen BK160.out 0; have hfz60_1 := blk_frozen BK160.out 1; have hfz60_2 := blk_frozen BK160.out 2))
                                    go_roundg k4
                                    case measure => have := HJ1.out; have := HJ22.out; have := HK3.out; have := HK4.out; omega
                                    case rel => exact ⟨(x8_4), (wrap64 (x47_4 + 1)), (by first | rfl | (simp; done) | (simp [*]; done)), H', ⟨by have := HJ1.out; have := HJ22.out; have := HK3.out; have := HK4.out; omega⟩, ⟨by (with_reducible repeat (first | apply Kd.R_alloc | apply Kd.R_drewN | apply Kd.R_drew)); exact Kd.R_mono (Kd.R_far (p := ⟨gb180, 3, none⟩) (Kd.R_far (p := ⟨gb180, 2, none⟩) (Kd.R_far (p := ⟨gb180, 1, none⟩) (Kd.R_far (p := ⟨gb180, 0, none⟩) (Kd.R_types HO_8.out BK180.out (by decide)) (fun _ hk => hk.2) (.int .i64 ((rd_T44 l0_2 x47_4).f0))) (fun _ hk => hk.2) (.int .i64 ((rd_T44 l0_2 x47_4).f1.f0))) (fun _ hk => hk.2) (.int .i64 ((rd_T44 l0_2 x47_4).f1.f1))) (fun _ hk => hk.2) (.string ((rd_T44 l0_2 x47_4).f1.f2))) (fun _ hk => trivial)⟩, ⟨by (with_reducible repeat (first | apply Kd.S_alloc | apply Kd.S_drewN | apply Kd.S_drew)); exact Kd.S_mono (Kd.S_far (p := ⟨gb180, 3, none⟩) (Kd.S_far (p := ⟨gb180, 2, none⟩) (Kd.S_far (p := ⟨gb180, 1, none⟩) (Kd.S_far (p := ⟨gb180, 0, none⟩) (Kd.S_types HO_37.out BK180.out (by decide)) (fun _ hk => hk.2) (.int .i64 ((rd_T44 l0_2 x47_4).f0))) (fun _ hk => hk.2) (.int .i64 ((rd_T44 l0_2 x47_4).f1.f0))) (fun _ hk => hk.2) (.int .i64 ((rd_T44 l0_2 x47_4).f1.f1))) (fun _ hk => hk.2) (.string ((rd_T44 l0_2 x47_4).f1.f2))) (fun _ hk => hk.1)⟩, ⟨by (with_reducible repeat (first | apply Kd.V_alloc | apply Kd.V_drewN | apply Kd.V_drew)); exact Kd.V_mono (Kd.V_far (p := ⟨gb180, 3, none⟩) (Kd.V_far (p := ⟨gb180, 2, none⟩) (Kd.V_far (p := ⟨gb180, 1, none⟩) (Kd.V_far (p := ⟨gb180, 0, none⟩) (Kd.V_mono HO_176001.out (fun k_ hk => (⟨hk, hk.2⟩ : _ ∧ k_ ≠ gb180))) (fun _ hk => hk.2) (.int .i64 ((rd_T44 l0_2 x47_4).f0))) (fun _ hk => hk.2) (.int .i64 ((rd_T44 l0_2 x47_4).f1.f0))) (fun _ hk => hk.2) (.int .i64 ((rd_T44 l0_2 x47_4).f1.f1))) (fun _ hk => hk.2) (.string ((rd_T44 l0_2 x47_4).f1.f2))) (fun _ hk => ⟨hk.1.1.1, ⟨hk.1.1.2.1, ⟨hk.1.1.2.2.1, hk.1.1.2.2.2⟩⟩⟩)⟩, ⟨by (with_reducible repeat (first | apply Kd.V_alloc | apply Kd.V_drewN | apply Kd.V_drew)); exact Kd.V_mono (Kd.V_far (p := ⟨gb180, 3, none⟩) (Kd.V_far (p := ⟨gb180, 2, none⟩) (Kd.V_far (p := ⟨gb180, 1, none⟩) (Kd.V_far (p := ⟨gb180, 0, none⟩) (Kd.V_mono HO_176002.out (fun k_ hk => (⟨hk, hk.2⟩ : _ ∧ k_ ≠ gb180))) (fun _ hk => hk.2) (.int .i64 ((rd_T44 l0_2 x47_4).f0))) (fun _ hk => hk.2) (.int .i64 ((rd_T44 l0_2 x47_4).f1.f0))) (fun _ hk => hk.2) (.int .i64 ((rd_T44 l0_2 x47_4).f1.f1))) (fun _ hk => hk.2) (.string ((rd_T44 l0_2 x47_4).f1.f2))) (fun _ hk => ⟨hk.1.1.1, ⟨hk.1.1.2.1, ⟨hk.1.1.2.2.1, hk.1.1.2.2.2⟩⟩⟩)⟩, ⟨by (with_reducible repeat (first | refine blk_drewN ?_ _ | refine blk_drew ?_ | refine blk_alloc ?_ _)); refine blk_far ?_ NB160_180.out _; (with_reducible repeat (first | refine blk_drewN ?_ _ | refine blk_drew ?_ | refine blk_alloc ?_ _)); refine blk_far ?_ NB160_180.out _; (with_reducible repeat (first | refine blk_drewN ?_ _ | refine blk_drew ?_ | refine blk_alloc ?_ _)); refine blk_far ?_ NB160_180.out _; (with_reducible repeat (first | refine blk_drewN ?_ _ | refine blk_drew ?_ | refine blk_alloc ?_ _)); refine blk_far ?_ NB160_180.out _; (with_reducible repeat (first | refine blk_drewN ?_ _ | refine blk_drew ?_ | refine blk_alloc ?_ _)); exact BK160.out⟩, ⟨by (with_reducible repeat (first | refine blk_drewN ?_ _ | refine blk_drew ?_ | refine blk_alloc ?_ _)); refine blk_far ?_ NB175_180.out _; (with_reducible repeat (first | refine blk_drewN ?_ _ | refine blk_drew ?_ | refine blk_alloc ?_ _)); refine blk_far ?_ NB175_180.out _; (with_reducible repeat (first | refine blk_drewN ?_ _ | refine blk_drew ?_ | refine blk_alloc ?_ _)); refine blk_far ?_ NB175_180.out _; (with_reducible repeat (first | refine blk_drewN ?_ _ | refine blk_drew ?_ | refine blk_alloc ?_ _)); refine blk_far ?_ NB175_180.out _; (with_reducible repeat (first | refine blk_drewN ?_ _ | refine blk_drew ?_ | refine blk_alloc ?_ _)); exact BK175.out⟩, ⟨(by have hbk_ : (ad178.add (x39_3 : Int).toNat).block ≠ gb180 := (by obtain ⟨_, h0_, _⟩ := Kd.S_types HO_37.out BK180.out (by decide); have h9_ := (h0_ ad178.block rfl).2; unfold Addr.add; split <;> exact h9_); exact ((cell_far hbk_ _).trans ((cell_far hbk_ _).trans ((cell_far hbk_ _).trans ((cell_far hbk_ _).trans HX37.out)))))⟩, ⟨by repeat (first | (with_reducible first | exact HB.out | apply below_alloc | apply pw_below_drewN | apply below_drew1 | refine below_set ?_ GE160.out | refine below_set ?_ GE175.out | refine below_set ?_ GE180.out) | exact HB.out)⟩⟩
                                · rw [if_neg c45] at H
                                  exact absurd H (by simp)
                              · rw [if_neg c44] at H
                                exact absurd H (by simp)
                            · rw [if_neg c43] at H
                              have c43b0 : decide (x47_4 < (l0_2.length : Int)) = false := decide_eq_false c43
                              clear c43
                              replace H := Option.bind_eq_some_iff.mp H
                              obtain ⟨t184, A610, H⟩ := H
                              replace H : (if t184 = true then (lookoutlaw50_NetworkEnds.l0 k4 t164 (t164.length : Int) (wrap64 (x39_3 + 1)) a0_0 l0_1 l0_2) else (none)) = some r := H
                              have A61 := Aside0.mk A610
                              clear A610
                              by_cases c62 : t184 = true
                              · subst c62
                                have H1 : (lookoutlaw50_NetworkEnds.l0 k4 t164 (t164.length : Int) (wrap64 (x39_3 + 1)) a0_0 l0_1 l0_2) = some r := by rw [if_pos rfl] at H; exact H
                                clear H
                                have H := H1
                                clear H1
                                have H' := Aside0.mk H
                                clear H
                                obtain ⟨Ao63, co63, eo63⟩ := Kd.R_slice HO_8.out
                                subst eo63
                                obtain ⟨ad178_, A178_9, c178_9, e178_, hx178_9, hl178_9, hi178_9⟩ := at_L7 (Kd.S_reads' HO_37.out).2.2 x39_3 P178.out.1 P178.out.2
                                cases e178_
                                have e178_ := Option.some.inj (hx178_9.symm.trans HX37.out)
                                injection e178_ with e178_1 e178_2 e178_3
                                have e178_4 := e178_1.symm; subst e178_4; have e178_5 := e178_3.symm; subst e178_5
                                go_wp2_with (first | ((with_reducible refine gate_callee (f := 24) rfl ?_); refine goesL_ (some 67) rfl rfl Try.func24 (by kernel_rfl) rfl #[.slice A178_0 (rd_L7 t164 x39_3).length c178_0, .slice Ao63 x8_4.length co63] rfl (by (try simp only [List.map_toArray, List.map_cons, List.map_nil]); first | done | rfl | (simp only [List.length_drop, List.length_take]; rfl)) ?_; (with_reducible refine (lookoutref50_SamePackets.calls k4 _ _ (rd_L7 t164 x39_3) _ _ x8_4 true _ ?side1 ?side2 ?side3 ?side4 A61.out).mono ?_); (case side1 => repeat (first | exact (hi178_9) | (with_reducible refine Kd.C_alloc ?_ _) | (with_reducible refine Kd.C_drewN ?_ _) | (with_reducible refine Kd.C_drew ?_))); (case side2 => exact HC178_0.out); (case side3 => repeat (first | exact (Kd.R_reads' HO_8.out).2.2 | (with_reducible refine Kd.C_alloc ?_ _) | (with_reducible refine Kd.C_drewN ?_ _) | (with_reducible refine Kd.C_drew ?_))); (case side4 => exact (Kd.R_reads' HO_8.out).2.1); rintro e w' ⟨rfl, ⟨nd, rfl⟩⟩; refine ⟨_, rfl, ?_⟩))
                                go_roundg k4
                                case measure => have := HJ1.out; have := HJ22.out; have := HK3.out; have := HK4.out; omega
                                case rel => exact ⟨(wrap64 (x39_3 + 1)), (by first | rfl | (simp; done) | (simp [*]; done)), H', ⟨by have := HJ1.out; have := HJ22.out; have := HK3.out; have := HK4.out; omega⟩, ⟨by (with_reducible repeat (first | apply Kd.S_alloc | apply Kd.S_drewN | apply Kd.S_drew)); exact Kd.S_mono HO_37.out (fun _ hk => trivial)⟩, ⟨by (with_reducible repeat (first | apply Kd.V_alloc | apply Kd.V_drewN | apply Kd.V_drew)); exact Kd.V_mono HO_176001.out (fun _ hk => ⟨hk.2.1, ⟨hk.2.2.1, hk.2.2.2⟩⟩)⟩, ⟨by (with_reducible repeat (first | apply Kd.V_alloc | apply Kd.V_drewN | apply Kd.V_drew)); exact Kd.V_mono HO_176002.out (fun _ hk => ⟨hk.2.1, ⟨hk.2.2.1, hk.2.2.2⟩⟩)⟩, ⟨by (with_reducible repeat (first | refine blk_drewN ?_ _ | refine blk_drew ?_ | refine blk_alloc ?_ _)); exact BK160.out⟩, ⟨by (with_reducible repeat (first | refine blk_drewN ?_ _ | refine blk_drew ?_ | refine blk_alloc ?_ _)); exact BK175.out⟩, ⟨by repeat (first | (with_reducible first | exact HB.out | apply below_alloc | apply pw_below_drewN | apply below_drew1 | refine below_set ?_ GE160.out | refine below_set ?_ GE175.out) | exact HB.out)⟩⟩
                              · replace c62 := Bool.eq_false_iff.mpr c62
                                subst c62
                                have H1 : (none) = some r := by rw [if_neg (show ¬ (false = true) by decide)] at H; exact H
                                clear H
                                have H := H1
                                clear H1
                                exact absurd H (by simp)
                      · rw [if_neg c40] at H
                        exact absurd H (by simp)
                    · rw [if_neg c39] at H
                      exact absurd H (by simp)
                  · rw [if_neg c38] at H
                    have c38b0 : decide (x39_3 < (t164.length : Int)) = false := decide_eq_false c38
                    clear c38
                    replace H := Option.bind_eq_some_iff.mp H
                    obtain ⟨t177, A640, H⟩ := H
                    replace H : (some t177) = some r := H
                    have A64 := Aside0.mk A640
                    clear A640
                    obtain rfl := Option.some.inj H
                    go_wp2_with (first | ((with_reducible refine gate_callee (f := 11) rfl ?_); refine goesL_ (some 70) rfl rfl Try.func11 (by kernel_rfl) rfl #[] rfl (by (try simp only [List.map_toArray, List.map_cons, List.map_nil]); first | done | rfl | (simp only [List.length_drop, List.length_take]; rfl)) ?_; (with_reducible refine (lookoutlaw50_awake.calls k3  t177 _ A64.out).mono ?_); rintro e w65 ⟨rfl, hb⟩; refine ⟨_, rfl, ?_⟩; have n0_ := Aside0.mk (Kd.S_below (by (with_reducible repeat (first | apply Kd.S_alloc | apply Kd.S_drewN | apply Kd.S_drew)); exact HO_37.out) hb); have n1_ := Aside0.mk (Kd.V_below (by (with_reducible repeat (first | apply Kd.V_alloc | apply Kd.V_drewN | apply Kd.V_drew)); exact HO_176001.out) hb); have n2_ := Aside0.mk (Kd.V_below (by (with_reducible repeat (first | apply Kd.V_alloc | apply Kd.V_drewN | apply Kd.V_drew)); exact HO_176002.out) hb); have n3_ := Aside0.mk (blk_below (g := gb160) (o := .cells #[.int .i64 a0_0, .slice A0_1 l0_1.length c0_1, .slice A0_2 l0_2.length c0_2] 25 (0, 0)) (by (with_reducible repeat (first | refine blk_drewN ?_ _ | refine blk_drew ?_ | refine blk_alloc ?_ _)); exact BK160.out) hb); have n4_ := Aside0.mk (blk_below (g := gb175) (o := .cells #[.int .i64 t167, .slice Ao29 t168.length co29, .slice Ao30 t171.length co30] 25 (0, 0)) (by (with_reducible repeat (first | refine blk_drewN ?_ _ | refine blk_drew ?_ | refine blk_alloc ?_ _)); exact BK175.out) hb); have n5_ := Aside0.mk (below_step (by repeat (first | (with_reducible first | exact HB.out | apply below_alloc | apply pw_below_drewN | apply below_drew1 | refine below_set ?_ GE160.out | refine below_set ?_ GE175.out) | exact HB.out)) hb); clear HO_37; clear HO_176001; clear HO_176002; clear BK160; clear BK175; clear HB; have HO_37 := n0_; have HO_176001 := n1_; have HO_176002 := n2_; have BK160 := n3_; have BK175 := n4_; have HB := n5_; clear n0_ n1_ n2_ n3_ n4_ n5_; (try clear hb); (try clear hb2); (try clear hk); (try clear hi)))
                    go_ret
                    exact ⟨by first | rfl | (simp [errW_none, errW_some] <;> rfl) | (simp [*, errW_none, errW_some] <;> rfl), by repeat (first | (with_reducible first | exact HB.out | apply below_alloc | apply pw_below_drewN | apply below_drew1 | refine below_set ?_ GE160.out | refine below_set ?_ GE175.out) | exact HB.out)⟩

def lookoutlaw50_NetworkEnds.WT27 (x : S27) : Prop := (Lit.int .i64 x.f0).wf = true ∧ (Lit.int .i64 x.f1).wf = true ∧ x.f2.size ≤ 140737488351232
def lookoutlaw50_NetworkEnds.WT44 (x : S44) : Prop := (Lit.int .i64 x.f0).wf = true ∧ lookoutlaw50_NetworkEnds.WT27 x.f1
def lookoutlaw50_NetworkEnds.WT25 (x : S25) : Prop := (Lit.int .i64 x.f0).wf = true ∧ (x.f1.length ≤ maxLen ∧ x.f1.length * 8 ≤ 140737488351232 ∧ ∀ y ∈ x.f1, (Lit.int .i64 y).wf = true) ∧ (x.f2.length ≤ maxLen ∧ x.f2.length * 40 ≤ 140737488351232 ∧ ∀ y ∈ x.f2, lookoutlaw50_NetworkEnds.WT44 y)
/-- THE ONE PURE STATEMENT of lookoutlaw50_NetworkEnds. -/
def lookoutlaw50_NetworkEnds.Pure : Prop := ∀ (a0_0 : Int) (l0_1 : List Int) (l0_2 : List (S44)), (Lit.int .i64 a0_0).wf = true → l0_1.length ≤ maxLen → l0_1.length * 8 ≤ 140737488351232 → (∀ x ∈ l0_1, (Lit.int .i64 x).wf = true) → l0_2.length ≤ maxLen → l0_2.length * 40 ≤ 140737488351232 → (∀ x ∈ l0_2, lookoutlaw50_NetworkEnds.WT44 x) → ∃ k, lookoutlaw50_NetworkEnds.f k a0_0 l0_1 l0_2 = some true

end Go.Proofs.Ytkfplnbofgiknaa.P
