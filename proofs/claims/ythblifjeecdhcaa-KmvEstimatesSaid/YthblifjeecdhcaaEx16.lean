/- Printed by a program of this session: functions of the law's Go code as Lean functions, and that the Go code computes them. No condition beyond those in the statements. -/
import Derived.Test.YthblifjeecdhcaaEA
import Derived.Test.YthblifjeecdhcaaEx12
import Derived.Test.YthblifjeecdhcaaEx15
namespace Go.Proofs.Ythblifjeecdhcaa.E
open Go.RowKit Go.Proofs.YthblifjeecdhcaaW.PrintWords Go.Proofs.YthblifjeecdhcaaW.PrintLast Go.Proofs.YthblifjeecdhcaaW.PrintMore Go.Proofs.Ythblifjeecdhcaa.Hand Go.Proofs.Ythblifjeecdhcaa.A Go.Proofs.Ythblifjeecdhcaa.P Go.Proofs.Ythblifjeecdhcaa.B
attribute [local go_sem] max2_int min2_int max_two min_two max_three min_three max_four min_four   -- for this text's walks alone
set_option linter.unusedVariables false
set_option linter.unusedSimpArgs false

/-! ### lookoutlaw30_KmvEstimates: function 8 -/
def lookoutlaw30_KmvEstimates.j0 : Nat → ByteArray → Bool → Int → Int → List Int → Option (Bool)
  | 0, _, _, _, _, _ => none
  | k + 1, x1, x29, x170000, x170001, x170002 => if x29 = true then ((lookoutlaw30_awake.f k).bind fun t171 => (some t171)) else ((kmv_Bounds.f k x170000 x170001 x170002).bind fun bt172 => ((lookoutref30_Bounds.f k x170000 x170001 x170002).bind fun bt175 => ((kmv_Estimate.f k x170000 x170001 x170002).bind fun bt178 => ((lookoutref30_Estimate.f k x170000 x170001 x170002).bind fun bt180 => ((kmv_Encode.f k x170000 x170001 x170002).bind fun bt182 => ((lookoutref30_Encode.f k x170000 x170001 x170002).bind fun bt184 => ((kmv_Decode.f k x1).bind fun bt186 => ((lookoutref30_Decode.f k x1).bind fun bt193 => (if bt172.1 = bt175.1 then (if bt172.2.1 = bt175.2.1 then (if bt172.2.2 = bt175.2.2 then (if bt178.1 = bt180.1 then (if bt178.2 = bt180.2 then (if bt182.1.toList = bt184.1.toList then (if bt182.2 = bt184.2 then ((lookoutref30_Same.f k bt186.1 bt186.2.1 bt186.2.2.1 bt193.1 bt193.2.1 bt193.2.2.1).bind fun t200 => (if t200 = true then (if bt186.2.2.2 = bt193.2.2.2 then ((lookoutlaw30_awake.f k).bind fun t201 => (some t201)) else (none)) else (none))) else (none)) else (none)) else (none)) else (none)) else (none)) else (none)) else (none))))))))))
def lookoutlaw30_KmvEstimates.f (k : Nat) (a0_0 : Int) (a0_1 : Int) (l0_2 : List Int) (a1 : ByteArray) : Option (Bool) := (lookoutref30_Great.f a0_0 a0_1 l0_2).bind fun t170 => (if t170 = true then (lookoutlaw30_KmvEstimates.j0 k a1 true a0_0 a0_1 l0_2) else (lookoutlaw30_KmvEstimates.j0 k a1 (decide ((a1.size : Int) > 600)) a0_0 a0_1 l0_2))
theorem lookoutlaw30_KmvEstimates.mono_l : ∀ k, (∀ y0 y1 y2 y3 y4, LeO (lookoutlaw30_KmvEstimates.j0 k y0 y1 y2 y3 y4) (lookoutlaw30_KmvEstimates.j0 (k + 1) y0 y1 y2 y3 y4))
  | 0 => fun _ _ _ _ _ r h => by simp [lookoutlaw30_KmvEstimates.j0] at h
  | k + 1 => by
    have ih0 := lookoutlaw30_KmvEstimates.mono_l k
    · intro y0 y1 y2 y3 y4
      unfold lookoutlaw30_KmvEstimates.j0
      repeat' first
      | (with_reducible exact ih0 _ _ _ _ _)
      | (with_reducible exact kmv_Bounds.mono _ _ _ _)
      | (with_reducible exact kmv_Decode.mono _ _)
      | (with_reducible exact kmv_Encode.mono _ _ _ _)
      | (with_reducible exact kmv_Estimate.mono _ _ _ _)
      | (with_reducible exact lookoutlaw30_awake.mono _)
      | (with_reducible exact lookoutref30_Bounds.mono _ _ _ _)
      | (with_reducible exact lookoutref30_Decode.mono _ _)
      | (with_reducible exact lookoutref30_Encode.mono _ _ _ _)
      | (with_reducible exact lookoutref30_Estimate.mono _ _ _ _)
      | (with_reducible exact lookoutref30_Same.mono _ _ _ _ _ _ _)
      | (with_reducible exact LeO.refl _)
      | (with_reducible exact LeO.none _)
      | (with_reducible refine LeO.ite ?_ ?_)
      | (with_reducible refine LeO.bind ?_ (fun _ => ?_))
      | exact ih0 _ _ _ _ _
      | exact kmv_Bounds.mono _ _ _ _
      | exact kmv_Decode.mono _ _
      | exact kmv_Encode.mono _ _ _ _
      | exact kmv_Estimate.mono _ _ _ _
      | exact lookoutlaw30_awake.mono _
      | exact lookoutref30_Bounds.mono _ _ _ _
      | exact lookoutref30_Decode.mono _ _
      | exact lookoutref30_Encode.mono _ _ _ _
      | exact lookoutref30_Estimate.mono _ _ _ _
      | exact lookoutref30_Same.mono _ _ _ _ _ _ _
      | exact LeO.none _
      | refine LeO.ite ?_ ?_
      | refine LeO.bind ?_ (fun _ => ?_)
theorem lookoutlaw30_KmvEstimates.mono : ∀ a0 a1 a2 a3 k, LeO (lookoutlaw30_KmvEstimates.f k a0 a1 a2 a3) (lookoutlaw30_KmvEstimates.f (k + 1) a0 a1 a2 a3) := by
  intro a0 a1 a2 a3 k
  have ih0 := lookoutlaw30_KmvEstimates.mono_l k
  unfold lookoutlaw30_KmvEstimates.f
  repeat' first
      | (with_reducible exact ih0 _ _ _ _ _)
      | (with_reducible exact kmv_Bounds.mono _ _ _ _)
      | (with_reducible exact kmv_Decode.mono _ _)
      | (with_reducible exact kmv_Encode.mono _ _ _ _)
      | (with_reducible exact kmv_Estimate.mono _ _ _ _)
      | (with_reducible exact lookoutlaw30_awake.mono _)
      | (with_reducible exact lookoutref30_Bounds.mono _ _ _ _)
      | (with_reducible exact lookoutref30_Decode.mono _ _)
      | (with_reducible exact lookoutref30_Encode.mono _ _ _ _)
      | (with_reducible exact lookoutref30_Estimate.mono _ _ _ _)
      | (with_reducible exact lookoutref30_Same.mono _ _ _ _ _ _ _)
      | (with_reducible exact LeO.refl _)
      | (with_reducible exact LeO.none _)
      | (with_reducible refine LeO.ite ?_ ?_)
      | (with_reducible refine LeO.bind ?_ (fun _ => ?_))
      | exact ih0 _ _ _ _ _
      | exact kmv_Bounds.mono _ _ _ _
      | exact kmv_Decode.mono _ _
      | exact kmv_Encode.mono _ _ _ _
      | exact kmv_Estimate.mono _ _ _ _
      | exact lookoutlaw30_awake.mono _
      | exact lookoutref30_Bounds.mono _ _ _ _
      | exact lookoutref30_Decode.mono _ _
      | exact lookoutref30_Encode.mono _ _ _ _
      | exact lookoutref30_Estimate.mono _ _ _ _
      | exact lookoutref30_Same.mono _ _ _ _ _ _ _
      | exact LeO.none _
      | refine LeO.ite ?_ ?_
      | refine LeO.bind ?_ (fun _ => ?_)
set_option maxHeartbeats 8000000 in
set_option maxRecDepth 100000 in
theorem lookoutlaw30_KmvEstimates.calls (k : Nat) (a0_0 : Int) (a0_1 : Int) (A0_2 : Option Addr) (c0_2 : Nat) (l0_2 : List Int) (a1 : ByteArray) (r : Bool) (w : World) (hr0_2 : Kd.C (Kd.int .i64) w A0_2 l0_2.length l0_2) (hc0_2 : l0_2.length ≤ c0_2) (h : lookoutlaw30_KmvEstimates.f k a0_0 a0_1 l0_2 a1 = some r) :
    Calls Try.prog 8 #[.agg #[.int .i64 a0_0, .int .i64 a0_1, .slice A0_2 l0_2.length c0_2], .string a1] w fun e w' => e = .returned (.bool r) ∧ Below w.heap.size w w' := by
  have hu24 := Try.underlying24
  have HR0_2 := Aside0.mk hr0_2
  have HC0_2 := Aside0.mk hc0_2
  clear hr0_2 hc0_2
  have HB := Aside0.mk (Below.refl w.heap.size w)
  have H : ((lookoutref30_Great.f a0_0 a0_1 l0_2).bind fun t170 => (if t170 = true then (lookoutlaw30_KmvEstimates.j0 k a1 true a0_0 a0_1 l0_2) else (lookoutlaw30_KmvEstimates.j0 k a1 (decide ((a1.size : Int) > 600)) a0_0 a0_1 l0_2))) = some r := h
  clear h
  have HC3 := Aside0.mk H
  clear H
  go_enter Try.func8, Try.ntmps8
  go_upto_region 1 with (first | ((with_reducible refine gate_dst (N := 2) rfl ?_); (try (refine gate_guard (by rfl) ?_; dsimp only)); refine box_event ?hg (N := 2) ?hd (cs := #[.int .i64 a0_0, .int .i64 a0_1, .slice A0_2 l0_2.length c0_2]) (t := 24) ?hr ?_; (case hd => rfl); (case hg => rfl); (case hr => first | (go_simp; done) | (go_simp; rfl)); intro gb169 hg w4 hbox hb; have n0_ := Aside0.mk (below_step (by repeat (first | (with_reducible first | exact HB.out | apply below_alloc | apply pw_below_drewN | apply below_drew1) | exact HB.out)) hb); have n1_ := Aside0.mk (hbox); have n2_ := Aside0.mk ((by rw [hg]; exact (below_size (by repeat (first | (with_reducible first | exact HB.out | apply below_alloc | apply pw_below_drewN | apply below_drew1) | exact HB.out))) : w.heap.size ≤ gb169)); have n3_ := Aside0.mk ((by rw [hg]; exact (below_size (by repeat (first | (with_reducible first | exact HB.out | apply below_alloc | apply pw_below_drewN | apply below_drew1) | exact HB.out))) : w.heap.size ≤ gb169)); clear HB; have HB := n0_; have BK169 := n1_; have GW169 := n2_; have GE169 := n3_; clear n0_ n1_ n2_ n3_; clear hb hbox hg))
  (try simp only [Act.put, List.setIfInBounds_toArray, List.set_cons_zero, List.set_cons_succ])
  go_cut [29] (fun v29 wc => ∃ (kq : Nat) (x29_2 : Bool), v29 = .bool x29_2 ∧ Aside0 (lookoutlaw30_KmvEstimates.j0 kq a1 x29_2 a0_0 a0_1 l0_2 = some r) ∧ Aside0 (kq ≤ k) ∧ Aside0 (wc.heap[gb169]? = some (.cells #[.int .i64 a0_0, .int .i64 a0_1, (.slice A0_2 l0_2.length c0_2)] 24 (0, 0))) ∧ Aside0 (Below w.heap.size w wc))
  case first =>
    have H := HC3.out
    clear HC3
    replace H := Option.bind_eq_some_iff.mp H
    obtain ⟨t170, A50, H⟩ := H
    replace H : (if t170 = true then (lookoutlaw30_KmvEstimates.j0 k a1 true a0_0 a0_1 l0_2) else (lookoutlaw30_KmvEstimates.j0 k a1 (decide ((a1.size : Int) > 600)) a0_0 a0_1 l0_2)) = some r := H
    have A5 := Aside0.mk A50
    clear A50
    by_cases c6 : t170 = true
    · subst c6
      have H1 : (lookoutlaw30_KmvEstimates.j0 k a1 true a0_0 a0_1 l0_2) = some r := by rw [if_pos rfl] at H; exact H
      clear H
      have H := H1
      clear H1
      have H' := Aside0.mk H
      clear H
      have hcz7_0 : w4.cell? ⟨gb169, 0, none⟩ = some (.int .i64 a0_0) := (blk_cell BK169.out 0).trans rfl
      have hcz7_1 : w4.cell? ⟨gb169, 1, none⟩ = some (.int .i64 a0_1) := (blk_cell BK169.out 1).trans rfl
      have hcz7_2 : w4.cell? ⟨gb169, 2, none⟩ = some (.slice A0_2 l0_2.length c0_2) := (blk_cell BK169.out 2).trans rfl
      have hfz7_0 := blk_frozen BK169.out 0
      have hfz7_1 := blk_frozen BK169.out 1
      have hfz7_2 := blk_frozen BK169.out 2
      go_wp2_with (first | ((with_reducible refine gate_callee (f := 11) rfl ?_); refine goesL_ (some 24) rfl rfl Try.func11 (by kernel_rfl) rfl #[.agg #[.int .i64 a0_0, .int .i64 a0_1, .slice A0_2 l0_2.length c0_2]] rfl (by (try simp only [List.map_toArray, List.map_cons, List.map_nil]); first | done | rfl | (simp only [List.length_drop, List.length_take]; rfl)) ?_; (with_reducible refine (lookoutref30_Great.calls a0_0 a0_1 _ _ l0_2 true _ ?side1 ?side2 A5.out).mono ?_); (case side1 => repeat (first | exact (Kd.C_below HR0_2.out HB.out) | (with_reducible refine Kd.C_alloc ?_ _) | (with_reducible refine Kd.C_drewN ?_ _) | (with_reducible refine Kd.C_drew ?_))); (case side2 => exact HC0_2.out); rintro e w8 ⟨rfl, hb⟩; refine ⟨_, rfl, ?_⟩; have n0_ := Aside0.mk (blk_below (g := gb169) (o := .cells #[.int .i64 a0_0, .int .i64 a0_1, .slice A0_2 l0_2.length c0_2] 24 (0, 0)) (by (with_reducible repeat (first | refine blk_drewN ?_ _ | refine blk_drew ?_ | refine blk_alloc ?_ _)); exact BK169.out) hb); have n1_ := Aside0.mk (below_step (by repeat (first | (with_reducible first | exact HB.out | apply below_alloc | apply pw_below_drewN | apply below_drew1 | refine below_set ?_ GE169.out) | exact HB.out)) hb); clear BK169; clear HB; have BK169 := n0_; have HB := n1_; clear n0_ n1_; (try clear hb); (try clear hb2); (try clear hk); (try clear hi)))
      go_meet
      case rel => exact ⟨_, (true), (by first | rfl | (simp; done) | (simp [*]; done)), H', ⟨by first | omega | exact Nat.le_refl _⟩, ⟨by (with_reducible repeat (first | refine blk_drewN ?_ _ | refine blk_drew ?_ | refine blk_alloc ?_ _)); exact BK169.out⟩, ⟨by repeat (first | (with_reducible first | exact HB.out | apply below_alloc | apply pw_below_drewN | apply below_drew1 | refine below_set ?_ GE169.out) | exact HB.out)⟩⟩
    · replace c6 := Bool.eq_false_iff.mpr c6
      subst c6
      have H1 : (lookoutlaw30_KmvEstimates.j0 k a1 (decide ((a1.size : Int) > 600)) a0_0 a0_1 l0_2) = some r := by rw [if_neg (show ¬ (false = true) by decide)] at H; exact H
      clear H
      have H := H1
      clear H1
      have H' := Aside0.mk H
      clear H
      have hcz9_0 : w4.cell? ⟨gb169, 0, none⟩ = some (.int .i64 a0_0) := (blk_cell BK169.out 0).trans rfl
      have hcz9_1 : w4.cell? ⟨gb169, 1, none⟩ = some (.int .i64 a0_1) := (blk_cell BK169.out 1).trans rfl
      have hcz9_2 : w4.cell? ⟨gb169, 2, none⟩ = some (.slice A0_2 l0_2.length c0_2) := (blk_cell BK169.out 2).trans rfl
      have hfz9_0 := blk_frozen BK169.out 0
      have hfz9_1 := blk_frozen BK169.out 1
      have hfz9_2 := blk_frozen BK169.out 2
      go_wp2_with (first | ((with_reducible refine gate_callee (f := 11) rfl ?_); refine goesL_ (some 24) rfl rfl Try.func11 (by kernel_rfl) rfl #[.agg #[.int .i64 a0_0, .int .i64 a0_1, .slice A0_2 l0_2.length c0_2]] rfl (by (try simp only [List.map_toArray, List.map_cons, List.map_nil]); first | done | rfl | (simp only [List.length_drop, List.length_take]; rfl)) ?_; (with_reducible refine (lookoutref30_Great.calls a0_0 a0_1 _ _ l0_2 false _ ?side1 ?side2 A5.out).mono ?_); (case side1 => repeat (first | exact (Kd.C_below HR0_2.out HB.out) | (with_reducible refine Kd.C_alloc ?_ _) | (with_reducible refine Kd.C_drewN ?_ _) | (with_reducible refine Kd.C_drew ?_))); (case side2 => exact HC0_2.out); rintro e w10 ⟨rfl, hb⟩; refine ⟨_, rfl, ?_⟩; have n0_ := Aside0.mk (blk_below (g := gb169) (o := .cells #[.int .i64 a0_0, .int .i64 a0_1, .slice A0_2 l0_2.length c0_2] 24 (0, 0)) (by (with_reducible repeat (first | refine blk_drewN ?_ _ | refine blk_drew ?_ | refine blk_alloc ?_ _)); exact BK169.out) hb); have n1_ := Aside0.mk (below_step (by repeat (first | (with_reducible first | exact HB.out | apply below_alloc | apply pw_below_drewN | apply below_drew1 | refine below_set ?_ GE169.out) | exact HB.out)) hb); clear BK169; clear HB; have BK169 := n0_; have HB := n1_; clear n0_ n1_; (try clear hb); (try clear hb2); (try clear hk); (try clear hi)))
      go_meet
      case rel => exact ⟨_, (decide ((a1.size : Int) > 600)), (by first | rfl | (simp; done) | (simp [*]; done)), H', ⟨by first | omega | exact Nat.le_refl _⟩, ⟨by (with_reducible repeat (first | refine blk_drewN ?_ _ | refine blk_drew ?_ | refine blk_alloc ?_ _)); exact BK169.out⟩, ⟨by repeat (first | (with_reducible first | exact HB.out | apply below_alloc | apply pw_below_drewN | apply below_drew1 | refine below_set ?_ GE169.out) | exact HB.out)⟩⟩
  case rest =>
    clear HC3
    try clear c1
    try clear p2
    try clear c6
    try clear c8
    try clear hcz7_0
    try clear hcz7_1
    try clear hcz7_2
    try clear hcz9_0
    try clear hcz9_1
    try clear hcz9_2
    try clear hfz7_0
    try clear hfz7_1
    try clear hfz7_2
    try clear hfz9_0
    try clear hfz9_1
    try clear hfz9_2
    obtain ⟨kq, x29_2, rfl, HA, HJ2, BK169, HB⟩ := hcut
    cases kq with
    | zero => exact absurd HA.out (by simp [lookoutlaw30_KmvEstimates.j0])
    | succ kj2 =>
      have H := HA.out
      clear HA
      simp only [lookoutlaw30_KmvEstimates.j0] at H
      by_cases c11 : x29_2 = true
      · subst c11
        have H1 : ((lookoutlaw30_awake.f kj2).bind fun t171 => (some t171)) = some r := by rw [if_pos rfl] at H; exact H
        clear H
        have H := H1
        clear H1
        replace H := Option.bind_eq_some_iff.mp H
        obtain ⟨t171, A120, H⟩ := H
        replace H : (some t171) = some r := H
        have A12 := Aside0.mk A120
        clear A120
        obtain rfl := Option.some.inj H
        go_wp2_with (first | ((with_reducible refine gate_callee (f := 12) rfl ?_); refine goesL_ (some 30) rfl rfl Try.func12 (by kernel_rfl) rfl #[] rfl (by (try simp only [List.map_toArray, List.map_cons, List.map_nil]); first | done | rfl | (simp only [List.length_drop, List.length_take]; rfl)) ?_; (with_reducible refine (lookoutlaw30_awake.calls kj2  t171 _ A12.out).mono ?_); rintro e w13 ⟨rfl, hb⟩; refine ⟨_, rfl, ?_⟩; have n0_ := Aside0.mk (blk_below (g := gb169) (o := .cells #[.int .i64 a0_0, .int .i64 a0_1, .slice A0_2 l0_2.length c0_2] 24 (0, 0)) (by (with_reducible repeat (first | refine blk_drewN ?_ _ | refine blk_drew ?_ | refine blk_alloc ?_ _)); exact BK169.out) hb); have n1_ := Aside0.mk (below_step (by repeat (first | (with_reducible first | exact HB.out | apply below_alloc | apply pw_below_drewN | apply below_drew1 | refine below_set ?_ GE169.out) | exact HB.out)) hb); clear BK169; clear HB; have BK169 := n0_; have HB := n1_; clear n0_ n1_; (try clear hb); (try clear hb2); (try clear hk); (try clear hi)))
        go_ret
        exact ⟨by first | rfl | (simp [errW_none, errW_some] <;> rfl) | (simp [*, errW_none, errW_some] <;> rfl), by repeat (first | (with_reducible first | exact HB.out | apply below_alloc | apply pw_below_drewN | apply below_drew1 | refine below_set ?_ GE169.out) | exact HB.out)⟩
      · replace c11 := Bool.eq_false_iff.mpr c11
        subst c11
        have H1 : ((kmv_Bounds.f kj2 a0_0 a0_1 l0_2).bind fun bt172 => ((lookoutref30_Bounds.f kj2 a0_0 a0_1 l0_2).bind fun bt175 => ((kmv_Estimate.f kj2 a0_0 a0_1 l0_2).bind fun bt178 => ((lookoutref30_Estimate.f kj2 a0_0 a0_1 l0_2).bind fun bt180 => ((kmv_Encode.f kj2 a0_0 a0_1 l0_2).bind fun bt182 => ((lookoutref30_Encode.f kj2 a0_0 a0_1 l0_2).bind fun bt184 => ((kmv_Decode.f kj2 a1).bind fun bt186 => ((lookoutref30_Decode.f kj2 a1).bind fun bt193 => (if bt172.1 = bt175.1 then (if bt172.2.1 = bt175.2.1 then (if bt172.2.2 = bt175.2.2 then (if bt178.1 = bt180.1 then (if bt178.2 = bt180.2 then (if bt182.1.toList = bt184.1.toList then (if bt182.2 = bt184.2 then ((lookoutref30_Same.f kj2 bt186.1 bt186.2.1 bt186.2.2.1 bt193.1 bt193.2.1 bt193.2.2.1).bind fun t200 => (if t200 = true then (if bt186.2.2.2 = bt193.2.2.2 then ((lookoutlaw30_awake.f kj2).bind fun t201 => (some t201)) else (none)) else (none))) else (none)) else (none)) else (none)) else (none)) else (none)) else (none)) else (none)))))))))) = some r := by rw [if_neg (show ¬ (false = true) by decide)] at H; exact H
        clear H
        have H := H1
        clear H1
        replace H := Option.bind_eq_some_iff.mp H
        obtain ⟨⟨t172, t173, t174⟩, A140, H⟩ := H
        replace H : ((lookoutref30_Bounds.f kj2 a0_0 a0_1 l0_2).bind fun bt175 => ((kmv_Estimate.f kj2 a0_0 a0_1 l0_2).bind fun bt178 => ((lookoutref30_Estimate.f kj2 a0_0 a0_1 l0_2).bind fun bt180 => ((kmv_Encode.f kj2 a0_0 a0_1 l0_2).bind fun bt182 => ((lookoutref30_Encode.f kj2 a0_0 a0_1 l0_2).bind fun bt184 => ((kmv_Decode.f kj2 a1).bind fun bt186 => ((lookoutref30_Decode.f kj2 a1).bind fun bt193 => (if t172 = bt175.1 then (if t173 = bt175.2.1 then (if t174 = bt175.2.2 then (if bt178.1 = bt180.1 then (if bt178.2 = bt180.2 then (if bt182.1.toList = bt184.1.toList then (if bt182.2 = bt184.2 then ((lookoutref30_Same.f kj2 bt186.1 bt186.2.1 bt186.2.2.1 bt193.1 bt193.2.1 bt193.2.2.1).bind fun t200 => (if t200 = true then (if bt186.2.2.2 = bt193.2.2.2 then ((lookoutlaw30_awake.f kj2).bind fun t201 => (some t201)) else (none)) else (none))) else (none)) else (none)) else (none)) else (none)) else (none)) else (none)) else (none))))))))) = some r := H
        have A14 := Aside0.mk A140
        clear A140
        replace H := Option.bind_eq_some_iff.mp H
        obtain ⟨⟨t175, t176, t177⟩, A150, H⟩ := H
        replace H : ((kmv_Estimate.f kj2 a0_0 a0_1 l0_2).bind fun bt178 => ((lookoutref30_Estimate.f kj2 a0_0 a0_1 l0_2).bind fun bt180 => ((kmv_Encode.f kj2 a0_0 a0_1 l0_2).bind fun bt182 => ((lookoutref30_Encode.f kj2 a0_0 a0_1 l0_2).bind fun bt184 => ((kmv_Decode.f kj2 a1).bind fun bt186 => ((lookoutref30_Decode.f kj2 a1).bind fun bt193 => (if t172 = t175 then (if t173 = t176 then (if t174 = t177 then (if bt178.1 = bt180.1 then (if bt178.2 = bt180.2 then (if bt182.1.toList = bt184.1.toList then (if bt182.2 = bt184.2 then ((lookoutref30_Same.f kj2 bt186.1 bt186.2.1 bt186.2.2.1 bt193.1 bt193.2.1 bt193.2.2.1).bind fun t200 => (if t200 = true then (if bt186.2.2.2 = bt193.2.2.2 then ((lookoutlaw30_awake.f kj2).bind fun t201 => (some t201)) else (none)) else (none))) else (none)) else (none)) else (none)) else (none)) else (none)) else (none)) else (none)))))))) = some r := H
        have A15 := Aside0.mk A150
        clear A150
        replace H := Option.bind_eq_some_iff.mp H
        obtain ⟨⟨t178, t179⟩, A160, H⟩ := H
        replace H : ((lookoutref30_Estimate.f kj2 a0_0 a0_1 l0_2).bind fun bt180 => ((kmv_Encode.f kj2 a0_0 a0_1 l0_2).bind fun bt182 => ((lookoutref30_Encode.f kj2 a0_0 a0_1 l0_2).bind fun bt184 => ((kmv_Decode.f kj2 a1).bind fun bt186 => ((lookoutref30_Decode.f kj2 a1).bind fun bt193 => (if t172 = t175 then (if t173 = t176 then (if t174 = t177 then (if t178 = bt180.1 then (if t179 = bt180.2 then (if bt182.1.toList = bt184.1.toList then (if bt182.2 = bt184.2 then ((lookoutref30_Same.f kj2 bt186.1 bt186.2.1 bt186.2.2.1 bt193.1 bt193.2.1 bt193.2.2.1).bind fun t200 => (if t200 = true then (if bt186.2.2.2 = bt193.2.2.2 then ((lookoutlaw30_awake.f kj2).bind fun t201 => (some t201)) else (none)) else (none))) else (none)) else (none)) else (none)) else (none)) else (none)) else (none)) else (none))))))) = some r := H
        have A16 := Aside0.mk A160
        clear A160
        replace H := Option.bind_eq_some_iff.mp H
        obtain ⟨⟨t180, t181⟩, A170, H⟩ := H
        replace H : ((kmv_Encode.f kj2 a0_0 a0_1 l0_2).bind fun bt182 => ((lookoutref30_Encode.f kj2 a0_0 a0_1 l0_2).bind fun bt184 => ((kmv_Decode.f kj2 a1).bind fun bt186 => ((lookoutref30_Decode.f kj2 a1).bind fun bt193 => (if t172 = t175 then (if t173 = t176 then (if t174 = t177 then (if t178 = t180 then (if t179 = t181 then (if bt182.1.toList = bt184.1.toList then (if bt182.2 = bt184.2 then ((lookoutref30_Same.f kj2 bt186.1 bt186.2.1 bt186.2.2.1 bt193.1 bt193.2.1 bt193.2.2.1).bind fun t200 => (if t200 = true then (if bt186.2.2.2 = bt193.2.2.2 then ((lookoutlaw30_awake.f kj2).bind fun t201 => (some t201)) else (none)) else (none))) else (none)) else (none)) else (none)) else (none)) else (none)) else (none)) else (none)))))) = some r := H
        have A17 := Aside0.mk A170
        clear A170
        replace H := Option.bind_eq_some_iff.mp H
        obtain ⟨⟨t182, t183⟩, A180, H⟩ := H
        replace H : ((lookoutref30_Encode.f kj2 a0_0 a0_1 l0_2).bind fun bt184 => ((kmv_Decode.f kj2 a1).bind fun bt186 => ((lookoutref30_Decode.f kj2 a1).bind fun bt193 => (if t172 = t175 then (if t173 = t176 then (if t174 = t177 then (if t178 = t180 then (if t179 = t181 then (if t182.toList = bt184.1.toList then (if t183 = bt184.2 then ((lookoutref30_Same.f kj2 bt186.1 bt186.2.1 bt186.2.2.1 bt193.1 bt193.2.1 bt193.2.2.1).bind fun t200 => (if t200 = true then (if bt186.2.2.2 = bt193.2.2.2 then ((lookoutlaw30_awake.f kj2).bind fun t201 => (some t201)) else (none)) else (none))) else (none)) else (none)) else (none)) else (none)) else (none)) else (none)) else (none))))) = some r := H
        have A18 := Aside0.mk A180
        clear A180
        replace H := Option.bind_eq_some_iff.mp H
        obtain ⟨⟨t184, t185⟩, A190, H⟩ := H
        replace H : ((kmv_Decode.f kj2 a1).bind fun bt186 => ((lookoutref30_Decode.f kj2 a1).bind fun bt193 => (if t172 = t175 then (if t173 = t176 then (if t174 = t177 then (if t178 = t180 then (if t179 = t181 then (if t182.toList = t184.toList then (if t183 = t185 then ((lookoutref30_Same.f kj2 bt186.1 bt186.2.1 bt186.2.2.1 bt193.1 bt193.2.1 bt193.2.2.1).bind fun t200 => (if t200 = true then (if bt186.2.2.2 = bt193.2.2.2 then ((lookoutlaw30_awake.f kj2).bind fun t201 => (some t201)) else (none)) else (none))) else (none)) else (none)) else (none)) else (none)) else (none)) else (none)) else (none)))) = some r := H
        have A19 := Aside0.mk A190
        clear A190
        replace H := Option.bind_eq_some_iff.mp H
        obtain ⟨⟨t186, t187, t188, t191⟩, A200, H⟩ := H
        replace H : ((lookoutref30_Decode.f kj2 a1).bind fun bt193 => (if t172 = t175 then (if t173 = t176 then (if t174 = t177 then (if t178 = t180 then (if t179 = t181 then (if t182.toList = t184.toList then (if t183 = t185 then ((lookoutref30_Same.f kj2 t186 t187 t188 bt193.1 bt193.2.1 bt193.2.2.1).bind fun t200 => (if t200 = true then (if t191 = bt193.2.2.2 then ((lookoutlaw30_awake.f kj2).bind fun t201 => (some t201)) else (none)) else (none))) else (none)) else (none)) else (none)) else (none)) else (none)) else (none)) else (none))) = some r := H
        have A20 := Aside0.mk A200
        clear A200
        replace H := Option.bind_eq_some_iff.mp H
        obtain ⟨⟨t193, t194, t195, t198⟩, A210, H⟩ := H
        replace H : (if t172 = t175 then (if t173 = t176 then (if t174 = t177 then (if t178 = t180 then (if t179 = t181 then (if t182.toList = t184.toList then (if t183 = t185 then ((lookoutref30_Same.f kj2 t186 t187 t188 t193 t194 t195).bind fun t200 => (if t200 = true then (if t191 = t198 then ((lookoutlaw30_awake.f kj2).bind fun t201 => (some t201)) else (none)) else (none))) else (none)) else (none)) else (none)) else (none)) else (none)) else (none)) else (none)) = some r := H
        have A21 := Aside0.mk A210
        clear A210
        by_cases c22 : t172 = t175
        · rw [if_pos c22] at H
          have c22b0 : (t172 == t175) = true := beq_iff_eq.mpr c22
          have c22b1 : (t172 != t175) = false := bne_eq_false_iff_eq.mpr c22
          clear c22
          by_cases c23 : t173 = t176
          · rw [if_pos c23] at H
            have c23b0 : (t173 == t176) = true := beq_iff_eq.mpr c23
            have c23b1 : (t173 != t176) = false := bne_eq_false_iff_eq.mpr c23
            clear c23
            by_cases c24 : t174 = t177
            · rw [if_pos c24] at H
              have c24b0 : (t174 == t177) = true := beq_iff_eq.mpr c24
              have c24b1 : (t174 != t177) = false := bne_eq_false_iff_eq.mpr c24
              clear c24
              by_cases c25 : t178 = t180
              · rw [if_pos c25] at H
                have c25b0 : (t178 == t180) = true := beq_iff_eq.mpr c25
                have c25b1 : (t178 != t180) = false := bne_eq_false_iff_eq.mpr c25
                clear c25
                by_cases c26 : t179 = t181
                · rw [if_pos c26] at H
                  have c26b0 : (t179 == t181) = true := beq_iff_eq.mpr c26
                  have c26b1 : (t179 != t181) = false := bne_eq_false_iff_eq.mpr c26
                  clear c26
                  by_cases c27 : t182.toList = t184.toList
                  · rw [if_pos c27] at H
                    have c27b0 : (t182.toList == t184.toList) = true := beq_iff_eq.mpr c27
                    have c27b1 : (t182.toList != t184.toList) = false := bne_eq_false_iff_eq.mpr c27
                    clear c27
                    by_cases c28 : t183 = t185
                    · rw [if_pos c28] at H
                      have c28b0 : (t183 == t185) = true := beq_iff_eq.mpr c28
                      have c28b1 : (t183 != t185) = false := bne_eq_false_iff_eq.mpr c28
                      clear c28
                      replace H := Option.bind_eq_some_iff.mp H
                      obtain ⟨t200, A290, H⟩ := H
                      replace H : (if t200 = true then (if t191 = t198 then ((lookoutlaw30_awake.f kj2).bind fun t201 => (some t201)) else (none)) else (none)) = some r := H
                      have A29 := Aside0.mk A290
                      clear A290
                      by_cases c30 : t200 = true
                      · subst c30
                        have H1 : (if t191 = t198 then ((lookoutlaw30_awake.f kj2).bind fun t201 => (some t201)) else (none)) = some r := by rw [if_pos rfl] at H; exact H
                        clear H
                        have H := H1
                        clear H1
                        by_cases c31 : t191 = t198
                        · rw [if_pos c31] at H
                          have c31b0 : (t191 == t198) = true := beq_iff_eq.mpr c31
                          have c31b1 : (t191 != t198) = false := bne_eq_false_iff_eq.mpr c31
                          clear c31
                          replace H := Option.bind_eq_some_iff.mp H
                          obtain ⟨t201, A320, H⟩ := H
                          replace H : (some t201) = some r := H
                          have A32 := Aside0.mk A320
                          clear A320
                          obtain rfl := Option.some.inj H
                          have hcz33_0 : wc.cell? ⟨gb169, 0, none⟩ = some (.int .i64 a0_0) := (blk_cell BK169.out 0).trans rfl
                          have hcz33_1 : wc.cell? ⟨gb169, 1, none⟩ = some (.int .i64 a0_1) := (blk_cell BK169.out 1).trans rfl
                          have hcz33_2 : wc.cell? ⟨gb169, 2, none⟩ = some (.slice A0_2 l0_2.length c0_2) := (blk_cell BK169.out 2).trans rfl
                          have hfz33_0 := blk_frozen BK169.out 0
                          have hfz33_1 := blk_frozen BK169.out 1
                          have hfz33_2 := blk_frozen BK169.out 2
                          go_wp2_with (first | ((with_reducible refine gate_callee (f := 26) rfl ?_); refine goesL_ (some 33) rfl rfl Try.func26 (by kernel_rfl) rfl #[.agg #[.int .i64 a0_0, .int .i64 a0_1, .slice A0_2 l0_2.length c0_2]] rfl (by (try simp only [List.map_toArray, List.map_cons, List.map_nil]); first | done | rfl | (simp only [List.length_drop, List.length_take]; rfl)) ?_; (with_reducible refine (kmv_Bounds.calls kj2 a0_0 a0_1 _ _ l0_2 t172 t173 t174 _ ?side1 ?side2 A14.out).mono ?_); (case side1 => repeat (first | exact (Kd.C_below HR0_2.out HB.out) | (with_reducible refine Kd.C_alloc ?_ _) | (with_reducible refine Kd.C_drewN ?_ _) | (with_reducible refine Kd.C_drew ?_))); (case side2 => exact HC0_2.out); rintro e w34 ⟨rfl, hb⟩; refine ⟨_, rfl, ?_⟩; have n0_ := Aside0.mk (blk_below (g := gb169) (o := .cells #[.int .i64 a0_0, .int .i64 a0_1, .slice A0_2 l0_2.length c0_2] 24 (0, 0)) (by (with_reducible repeat (first | refine blk_drewN ?_ _ | refine blk_drew ?_ | refine blk_alloc ?_ _)); exact BK169.out) hb); have n1_ := Aside0.mk (below_step (by repeat (first | (with_reducible first | exact HB.out | apply below_alloc | apply pw_below_drewN | apply below_drew1 | refine below_set ?_ GE169.out) | exact HB.out)) hb); clear BK169; clear HB; have BK169 := n0_; have HB := n1_; clear n0_ n1_; (try clear hb); (try clear hb2); (try clear hk); (try clear hi); have hcz35_0 : w34.cell? ⟨gb169, 0, none⟩ = some (.int .i64 a0_0) := (blk_cell BK169.out 0).trans rfl; have hcz35_1 : w34.cell? ⟨gb169, 1, none⟩ = some (.int .i64 a0_1) := (blk_cell BK169.out 1).trans rfl; have hcz35_2 : w34.cell? ⟨gb169, 2, none⟩ = some (.slice A0_2 l0_2.length c0_2) := (blk_cell BK169.out 2).trans rfl; have hfz35_0 := blk_frozen BK169.out 0; have hfz35_1 := blk_frozen BK169.out 1; have hfz35_2 := blk_frozen BK169.out 2) | ((with_reducible refine gate_callee (f := 27) rfl ?_); refine goesL_ (some 39) rfl rfl Try.func27 (by kernel_rfl) rfl #[.agg #[.int .i64 a0_0, .int .i64 a0_1, .slice A0_2 l0_2.length c0_2]] rfl (by (try simp only [List.map_toArray, List.map_cons, List.map_nil]); first | done | rfl | (simp only [List.length_drop, List.length_take]; rfl)) ?_; (with_reducible refine (lookoutref30_Bounds.calls kj2 a0_0 a0_1 _ _ l0_2 t175 t176 t177 _ ?side1 ?side2 A15.out).mono ?_); (case side1 => repeat (first | exact (Kd.C_below HR0_2.out HB.out) | (with_reducible refine Kd.C_alloc ?_ _) | (with_reducible refine Kd.C_drewN ?_ _) | (with_reducible refine Kd.C_drew ?_))); (case side2 => exact HC0_2.out); rintro e w36 ⟨rfl, hb⟩; refine ⟨_, rfl, ?_⟩; have n0_ := Aside0.mk (blk_below (g := gb169) (o := .cells #[.int .i64 a0_0, .int .i64 a0_1, .slice A0_2 l0_2.length c0_2] 24 (0, 0)) (by (with_reducible repeat (first | refine blk_drewN ?_ _ | refine blk_drew ?_ | refine blk_alloc ?_ _)); exact BK169.out) hb); have n1_ := Aside0.mk (below_step (by repeat (first | (with_reducible first | exact HB.out | apply below_alloc | apply pw_below_drewN | apply below_drew1 | refine below_set ?_ GE169.out) | exact HB.out)) hb); clear BK169; clear HB; have BK169 := n0_; have HB := n1_; clear n0_ n1_; (try clear hb); (try clear hb2); (try clear hk); (try clear hi); have hcz37_0 : w36.cell? ⟨gb169, 0, none⟩ = some (.int .i64 a0_0) := (blk_cell BK169.out 0).trans rfl; have hcz37_1 : w36.cell? ⟨gb169, 1, none⟩ = some (.int .i64 a0_1) := (blk_cell BK169.out 1).trans rfl; have hcz37_2 : w36.cell? ⟨gb169, 2, none⟩ = some (.slice A0_2 l0_2.length c0_2) := (blk_cell BK169.out 2).trans rfl; have hfz37_0 := blk_frozen BK169.out 0; have hfz37_1 := blk_frozen BK169.out 1; have hfz37_2 := blk_frozen BK169.out 2) | ((with_reducible refine gate_callee (f := 28) rfl ?_); refine goesL_ (some 45) rfl rfl Try.func28 (by kernel_rfl) rfl #[.agg #[.int .i64 a0_0, .int .i64 a0_1, .slice A0_2 l0_2.length c0_2]] rfl (by (try simp only [List.map_toArray, List.map_cons, List.map_nil]); first | done | rfl | (simp only [List.length_drop, List.length_take]; rfl)) ?_; (with_reducible refine (kmv_Estimate.calls kj2 a0_0 a0_1 _ _ l0_2 t178 t179 _ ?side1 ?side2 A16.out).mono ?_); (case side1 => repeat (first | exact (Kd.C_below HR0_2.out HB.out) | (with_reducible refine Kd.C_alloc ?_ _) | (with_reducible refine Kd.C_drewN ?_ _) | (with_reducible refine Kd.C_drew ?_))); (case side2 => exact HC0_2.out); rintro e w38 ⟨rfl, hb⟩; refine ⟨_, rfl, ?_⟩; have n0_ := Aside0.mk (blk_below (g := gb169) (o := .cells #[.int .i64 a0_0, .int .i64 a0_1, .slice A0_2 l0_2.length c0_2] 24 (0, 0)) (by (with_reducible repeat (first | refine blk_drewN ?_ _ | refine blk_drew ?_ | refine blk_alloc ?_ _)); exact BK169.out) hb); have n1_ := Aside0.mk (below_step (by repeat (first | (with_reducible first | exact HB.out | apply below_alloc | apply pw_below_drewN | apply below_drew1 | refine below_set ?_ GE169.out) | exact HB.out)) hb); clear BK169; clear HB; have BK169 := n0_; have HB := n1_; clear n0_ n1_; (try clear hb); (try clear hb2); (try clear hk); (try clear hi); have hcz39_0 : w38.cell? ⟨gb169, 0, none⟩ = some (.int .i64 a0_0) := (blk_cell BK169.out 0).trans rfl; have hcz39_1 : w38.cell? ⟨gb169, 1, none⟩ = some (.int .i64 a0_1) := (blk_cell BK169.out 1).trans rfl; have hcz39_2 : w38.cell? ⟨gb169, 2, none⟩ = some (.slice A0_2 l0_2.length c0_2) := (blk_cell BK169.out 2).trans rfl; have hfz39_0 := blk_frozen BK169.out 0; have hfz39_1 := blk_frozen BK169.out 1; have hfz39_2 := blk_frozen BK169.out 2) | ((with_reducible refine gate_callee (f := 29) rfl ?_); refine goesL_ (some 50) rfl rfl Try.func29 (by kernel_rfl) rfl #[.agg #[.int .i64 a0_0, .int .i64 a0_1, .slice A0_2 l0_2.length c0_2]] rfl (by (try simp only [List.map_toArray, List.map_cons, List.map_nil]); first | done | rfl | (simp only [List.length_drop, List.length_take]; rfl)) ?_; (with_reducible refine (lookoutref30_Estimate.calls kj2 a0_0 a0_1 _ _ l0_2 t180 t181 _ ?side1 ?side2 A17.out).mono ?_); (case side1 => repeat (first | exact (Kd.C_below HR0_2.out HB.out) | (with_reducible refine Kd.C_alloc ?_ _) | (with_reducible refine Kd.C_drewN ?_ _) | (with_reducible refine Kd.C_drew ?_))); (case side2 => exact HC0_2.out); rintro e w40 ⟨rfl, hb⟩; refine ⟨_, rfl, ?_⟩; have n0_ := Aside0.mk (blk_below (g := gb169) (o := .cells #[.int .i64 a0_0, .int .i64 a0_1, .slice A0_2 l0_2.length c0_2] 24 (0, 0)) (by (with_reducible repeat (first | refine blk_drewN ?_ _ | refine blk_drew ?_ | refine blk_alloc ?_ _)); exact BK169.out) hb); have n1_ := Aside0.mk (below_step (by repeat (first | (with_reducible first | exact HB.out | apply below_alloc | apply pw_below_drewN | apply below_drew1 | refine below_set ?_ GE169.out) | exact HB.out)) hb); clear BK169; clear HB; have BK169 := n0_; have HB := n1_; clear n0_ n1_; (try clear hb); (try clear hb2); (try clear hk); (try clear hi); have hcz41_0 : w40.cell? ⟨gb169, 0, none⟩ = some (.int .i64 a0_0) := (blk_cell BK169.out 0).trans rfl; have hcz41_1 : w40.cell? ⟨gb169, 1, none⟩ = some (.int .i64 a0_1) := (blk_cell BK169.out 1).trans rfl; have hcz41_2 : w40.cell? ⟨gb169, 2, none⟩ = some (.slice A0_2 l0_2.length c0_2) := (blk_cell BK169.out 2).trans rfl; have hfz41_0 := blk_frozen BK169.out 0; have hfz41_1 := blk_frozen BK169.out 1; have hfz41_2 := blk_frozen BK169.out 2) | ((with_reducible refine gate_callee (f := 30) rfl ?_); refine goesL_ (some 55) rfl rfl Try.func30 (by kernel_rfl) rfl #[.agg #[.int .i64 a0_0, .int .i64 a0_1, .slice A0_2 l0_2.length c0_2]] rfl (by (try simp only [List.map_toArray, List.map_cons, List.map_nil]); first | done | rfl | (simp only [List.length_drop, List.length_take]; rfl)) ?_; (with_reducible refine (kmv_Encode.calls kj2 a0_0 a0_1 _ _ l0_2 t182 t183 _ ?side1 ?side2 A18.out).mono ?_); (case side1 => repeat (first | exact (Kd.C_below HR0_2.out HB.out) | (with_reducible refine Kd.C_alloc ?_ _) | (with_reducible refine Kd.C_drewN ?_ _) | (with_reducible refine Kd.C_drew ?_))); (case side2 => exact HC0_2.out); rintro e w42 ⟨rfl, hb⟩; refine ⟨_, rfl, ?_⟩; have n0_ := Aside0.mk (blk_below (g := gb169) (o := .cells #[.int .i64 a0_0, .int .i64 a0_1, .slice A0_2 l0_2.length c0_2] 24 (0, 0)) (by (with_reducible repeat (first | refine blk_drewN ?_ _ | refine blk_drew ?_ | refine blk_alloc ?_ _)); exact BK169.out) hb); have n1_ := Aside0.mk (below_step (by repeat (first | (with_reducible first | exact HB.out | apply below_alloc | apply pw_below_drewN | apply below_drew1 | refine below_set ?_ GE169.out) | exact HB.out)) hb); clear BK169; clear HB; have BK169 := n0_; have HB := n1_; clear n0_ n1_; (try clear hb); (try clear hb2); (try clear hk); (try clear hi); have hcz43_0 : w42.cell? ⟨gb169, 0, none⟩ = some (.int .i64 a0_0) := (blk_cell BK169.out 0).trans rfl; have hcz43_1 : w42.cell? ⟨gb169, 1, none⟩ = some (.int .i64 a0_1) := (blk_cell BK169.out 1).trans rfl; have hcz43_2 : w42.cell? ⟨gb169, 2, none⟩ = some (.slice A0_2 l0_2.length c0_2) := (blk_cell BK169.out 2).trans rfl; have hfz43_0 := blk_frozen BK169.out 0; have hfz43_1 := blk_frozen BK169.out 1; have hfz43_2 := blk_frozen BK169.out 2) | ((with_reducible refine gate_callee (f := 31) rfl ?_); refine goesL_ (some 60) rfl rfl Try.func31 (by kernel_rfl) rfl #[.agg #[.int .i64 a0_0, .int .i64 a0_1, .slice A0_2 l0_2.length c0_2]] rfl (by (try simp only [List.map_toArray, List.map_cons, List.map_nil]); first | done | rfl | (simp only [List.length_drop, List.length_take]; rfl)) ?_; (with_reducible refine (lookoutref30_Encode.calls kj2 a0_0 a0_1 _ _ l0_2 t184 t185 _ ?side1 ?side2 A19.out).mono ?_); (case side1 => repeat (first | exact (Kd.C_below HR0_2.out HB.out) | (with_reducible refine Kd.C_alloc ?_ _) | (with_reducible refine Kd.C_drewN ?_ _) | (with_reducible refine Kd.C_drew ?_))); (case side2 => exact HC0_2.out); rintro e w44 ⟨rfl, hb⟩; refine ⟨_, rfl, ?_⟩; have n0_ := Aside0.mk (blk_below (g := gb169) (o := .cells #[.int .i64 a0_0, .int .i64 a0_1, .slice A0_2 l0_2.length c0_2] 24 (0, 0)) (by (with_reducible repeat (first | refine blk_drewN ?_ _ | refine blk_drew ?_ | refine blk_alloc ?_ _)); exact BK169.out) hb); have n1_ := Aside0.mk (below_step (by repeat (first | (with_reducible first | exact HB.out | apply below_alloc | apply pw_below_drewN | apply below_drew1 | refine below_set ?_ GE169.out) | exact HB.out)) hb); clear BK169; clear HB; have BK169 := n0_; have HB := n1_; clear n0_ n1_; (try clear hb); (try clear hb2); (try clear hk); (try clear hi)) | ((with_reducible refine gate_callee (f := 32) rfl ?_); refine goesL_ (some 65) rfl rfl Try.func32 (by kernel_rfl) rfl #[.string a1] rfl (by (try simp only [List.map_toArray, List.map_cons, List.map_nil]); first | done | rfl | (simp only [List.length_drop, List.length_take]; rfl)) ?_; (with_reducible refine (kmv_Decode.calls kj2 a1 t186 t187 t188 t191 _ A20.out).mono ?_); rintro e w45 ⟨v189, rfl, ho0, hb⟩; refine ⟨_, rfl, ?_⟩; have n0_ := Aside0.mk (Kd.R_lower ho0 (below_size (by repeat (first | (with_reducible first | exact HB.out | apply below_alloc | apply pw_below_drewN | apply below_drew1 | refine below_set ?_ GE169.out) | exact HB.out)))); have n1_ := Aside0.mk (blk_below (g := gb169) (o := .cells #[.int .i64 a0_0, .int .i64 a0_1, .slice A0_2 l0_2.length c0_2] 24 (0, 0)) (by (with_reducible repeat (first | refine blk_drewN ?_ _ | refine blk_drew ?_ | refine blk_alloc ?_ _)); exact BK169.out) hb); have n2_ := Aside0.mk (below_step (by repeat (first | (with_reducible first | exact HB.out | apply below_alloc | apply pw_below_drewN | apply below_drew1 | refine below_set ?_ GE169.out) | exact HB.out)) hb); clear BK169; clear HB; have HO190 := n0_; have BK169 := n1_; have HB := n2_; clear n0_ n1_ n2_; (try clear hb); (try clear hb2); (try clear hk); (try clear hi); (try clear ho0)) | ((with_reducible refine gate_dst (N := 19) rfl ?_); (try (refine gate_guard (by rfl) ?_; dsimp only)); refine box_event ?hg (N := 19) ?hd (cs := #[.int .i64 0, .int .i64 0, .slice none 0 0]) (t := 24) ?hr ?_; (case hd => rfl); (case hg => rfl); (case hr => first | (go_simp; done) | (go_simp; rfl)); intro gb192 hg w46 hbox hb; have n0_ := Aside0.mk (Kd.R_below (by (with_reducible repeat (first | apply Kd.R_alloc | apply Kd.R_drewN | apply Kd.R_drew)); exact HO190.out) hb); have n1_ := Aside0.mk (blk_below (g := gb169) (o := .cells #[.int .i64 a0_0, .int .i64 a0_1, .slice A0_2 l0_2.length c0_2] 24 (0, 0)) (by (with_reducible repeat (first | refine blk_drewN ?_ _ | refine blk_drew ?_ | refine blk_alloc ?_ _)); exact BK169.out) hb); have n2_ := Aside0.mk (below_step (by repeat (first | (with_reducible first | exact HB.out | apply below_alloc | apply pw_below_drewN | apply below_drew1 | refine below_set ?_ GE169.out) | exact HB.out)) hb); have n3_ := Aside0.mk (hbox); have n4_ := Aside0.mk ((by rw [hg]; exact (below_size (by repeat (first | (with_reducible first | exact HB.out | apply below_alloc | apply pw_below_drewN | apply below_drew1 | refine below_set ?_ GE169.out) | exact HB.out))) : w.heap.size ≤ gb192)); have n5_ := Aside0.mk ((by rw [hg]; exact (below_size (by repeat (first | (with_reducible first | exact HB.out | apply below_alloc | apply pw_below_drewN | apply below_drew1 | refine below_set ?_ GE169.out) | exact HB.out))) : w.heap.size ≤ gb192)); have n6_ := Aside0.mk ((by rw [hg]; exact Nat.ne_of_lt (blk_lt (g := gb169) (o := .cells #[.int .i64 a0_0, .int .i64 a0_1, .slice A0_2 l0_2.length c0_2] 24 (0, 0)) (by (with_reducible repeat (first | refine blk_drewN ?_ _ | refine blk_drew ?_ | refine blk_alloc ?_ _)); exact BK169.out)) : gb169 ≠ gb192)); have n7_ := Aside0.mk ((by rw [hg]; exact Nat.ne_of_gt (blk_lt (g := gb169) (o := .cells #[.int .i64 a0_0, .int .i64 a0_1, .slice A0_2 l0_2.length c0_2] 24 (0, 0)) (by (with_reducible repeat (first | refine blk_drewN ?_ _ | refine blk_drew ?_ | refine blk_alloc ?_ _)); exact BK169.out)) : gb192 ≠ gb169)); clear HO190; clear BK169; clear HB; have HO190 := n0_; have BK169 := n1_; have HB := n2_; have BK192 := n3_; have GW192 := n4_; have GE192 := n5_; have NB169_192 := n6_; have NB192_169 := n7_; clear n0_ n1_ n2_ n3_ n4_ n5_ n6_ n7_; clear hb hbox hg; have hnb47 := NB192_169.out; have hnc47 := NB169_192.out; have hcz48_0 : w46.cell? ⟨gb192, 0, none⟩ = some (.int .i64 0) := (blk_cell BK192.out 0).trans rfl; have hcz48_1 : w46.cell? ⟨gb192, 1, none⟩ = some (.int .i64 0) := (blk_cell BK192.out 1).trans rfl; have hcz48_2 : w46.cell? ⟨gb192, 2, none⟩ = some (.slice none 0 0) := (blk_cell BK192.out 2).trans rfl; have hfz48_0 := blk_frozen BK192.out 0; have hfz48_1 := blk_frozen BK192.out 1; have hfz48_2 := blk_frozen BK192.out 2; obtain ⟨Ao49, co49, eo49⟩ := Kd.R_slice HO190.out; subst eo49) | ((with_reducible refine gate_callee (f := 33) rfl ?_); refine goesL_ (some 70) rfl rfl Try.func33 (by kernel_rfl) rfl #[.string a1] rfl (by (try simp only [List.map_toArray, List.map_cons, List.map_nil]); first | done | rfl | (simp only [List.length_drop, List.length_take]; rfl)) ?_; (with_reducible refine (lookoutref30_Decode.calls kj2 a1 t193 t194 t195 t198 _ A21.out).mono ?_); rintro e w50 ⟨v196, rfl, ho0, hb⟩; refine ⟨_, rfl, ?_⟩; have n0_ := Aside0.mk (Kd.R_elder' (by (with_reducible repeat (first | apply Kd.R_alloc | apply Kd.R_drewN | apply Kd.R_drew)); exact (Kd.R_mono (Kd.R_far (p := ⟨gb192, 2, none⟩) (Kd.R_far (p := ⟨gb192, 1, none⟩) (Kd.R_far (p := ⟨gb192, 0, none⟩) (Kd.R_types HO190.out BK192.out (by decide)) (fun _ hk => hk.2) (.int .i64 t186)) (fun _ hk => hk.2) (.int .i64 t187)) (fun _ hk => hk.2) (.slice Ao49 t188.length co49)) (fun _ h_ => h_.1))) (Kd.R_base ho0) hb); have n1_ := Aside0.mk (Kd.R_lower (Kd.R_new' ho0 (Kd.R_lt (by (with_reducible repeat (first | apply Kd.R_alloc | apply Kd.R_drewN | apply Kd.R_drew)); exact (Kd.R_mono (Kd.R_far (p := ⟨gb192, 2, none⟩) (Kd.R_far (p := ⟨gb192, 1, none⟩) (Kd.R_far (p := ⟨gb192, 0, none⟩) (Kd.R_types HO190.out BK192.out (by decide)) (fun _ hk => hk.2) (.int .i64 t186)) (fun _ hk => hk.2) (.int .i64 t187)) (fun _ hk => hk.2) (.slice Ao49 t188.length co49)) (fun _ h_ => h_.1))))) (below_size (by repeat (first | (with_reducible first | exact HB.out | apply below_alloc | apply pw_below_drewN | apply below_drew1 | refine below_set ?_ GE169.out | refine below_set ?_ GE192.out) | exact HB.out)))); have n2_ := Aside0.mk (blk_below (g := gb169) (o := .cells #[.int .i64 a0_0, .int .i64 a0_1, .slice A0_2 l0_2.length c0_2] 24 (0, 0)) (by (with_reducible repeat (first | refine blk_drewN ?_ _ | refine blk_drew ?_ | refine blk_alloc ?_ _)); refine blk_far ?_ NB169_192.out _; (with_reducible repeat (first | refine blk_drewN ?_ _ | refine blk_drew ?_ | refine blk_alloc ?_ _)); refine blk_far ?_ NB169_192.out _; (with_reducible repeat (first | refine blk_drewN ?_ _ | refine blk_drew ?_ | refine blk_alloc ?_ _)); refine blk_far ?_ NB169_192.out _; (with_reducible repeat (first | refine blk_drewN ?_ _ | refine blk_drew ?_ | refine blk_alloc ?_ _)); exact BK169.out) hb); have n3_ := Aside0.mk (blk_below (g := gb192) (o := .cells #[.int .i64 t186, .int .i64 t187, .slice Ao49 t188.length co49] 24 (0, 0)) (by (with_reducible repeat (first | refine blk_drewN ?_ _ | refine blk_drew ?_ | refine blk_alloc ?_ _)); refine blk_put (cs := #[.int .i64 t186, .int .i64 t187, .slice none 0 0]) ?_ 2 _ rfl; (with_reducible repeat (first | refine blk_drewN ?_ _ | refine blk_drew ?_ | refine blk_alloc ?_ _)); refine blk_put (cs := #[.int .i64 t186, .int .i64 0, .slice none 0 0]) ?_ 1 _ rfl; (with_reducible repeat (first | refine blk_drewN ?_ _ | refine blk_drew ?_ | refine blk_alloc ?_ _)); refine blk_put (cs := #[.int .i64 0, .int .i64 0, .slice none 0 0]) ?_ 0 _ rfl; (with_reducible repeat (first | refine blk_drewN ?_ _ | refine blk_drew ?_ | refine blk_alloc ?_ _)); exact BK192.out) hb); have n4_ := Aside0.mk (below_step (by repeat (first | (with_reducible first | exact HB.out | apply below_alloc | apply pw_below_drewN | apply below_drew1 | refine below_set ?_ GE169.out | refine below_set ?_ GE192.out) | exact HB.out)) hb); clear HO190; clear BK169; clear BK192; clear HB; have HO190 := n0_; have HO197 := n1_; have BK169 := n2_; have BK192 := n3_; have HB := n4_; clear n0_ n1_ n2_ n3_ n4_; (try clear hb); (try clear hb2); (try clear hk); (try clear hi); (try clear ho0)) | ((with_reducible refine gate_dst (N := 21) rfl ?_); (try (refine gate_guard (by rfl) ?_; dsimp only)); refine box_event ?hg (N := 21) ?hd (cs := #[.int .i64 0, .int .i64 0, .slice none 0 0]) (t := 24) ?hr ?_; (case hd => rfl); (case hg => rfl); (case hr => first | (go_simp; done) | (go_simp; rfl)); intro gb199 hg w51 hbox hb; have n0_ := Aside0.mk (Kd.R_below (by (with_reducible repeat (first | apply Kd.R_alloc | apply Kd.R_drewN | apply Kd.R_drew)); exact HO190.out) hb); have n1_ := Aside0.mk (Kd.R_below (by (with_reducible repeat (first | apply Kd.R_alloc | apply Kd.R_drewN | apply Kd.R_drew)); exact HO197.out) hb); have n2_ := Aside0.mk (blk_below (g := gb169) (o := .cells #[.int .i64 a0_0, .int .i64 a0_1, .slice A0_2 l0_2.length c0_2] 24 (0, 0)) (by (with_reducible repeat (first | refine blk_drewN ?_ _ | refine blk_drew ?_ | refine blk_alloc ?_ _)); exact BK169.out) hb); have n3_ := Aside0.mk (blk_below (g := gb192) (o := .cells #[.int .i64 t186, .int .i64 t187, .slice Ao49 t188.length co49] 24 (0, 0)) (by (with_reducible repeat (first | refine blk_drewN ?_ _ | refine blk_drew ?_ | refine blk_alloc ?_ _)); exact BK192.out) hb); have n4_ := Aside0.mk (below_step (by repeat (first | (with_reducible first | exact HB.out | apply below_alloc | apply pw_below_drewN | apply below_drew1 | refine below_set ?_ GE169.out | refine below_set ?_ GE192.out) | exact HB.out)) hb); have n5_ := Aside0.mk (hbox); have n6_ := Aside0.mk ((by rw [hg]; exact (below_size (by repeat (first | (with_reducible first | exact HB.out | apply below_alloc | apply pw_below_drewN | apply below_drew1 | refine below_set ?_ GE169.out | refine below_set ?_ GE192.out) | exact HB.out))) : w.heap.size ≤ gb199)); have n7_ := Aside0.mk ((by rw [hg]; exact (below_size (by repeat (first | (with_reducible first | exact HB.out | apply below_alloc | apply pw_below_drewN | apply below_drew1 | refine below_set ?_ GE169.out | refine below_set ?_ GE192.out) | exact HB.out))) : w.heap.size ≤ gb199)); have n8_ := Aside0.mk ((by rw [hg]; exact Nat.ne_of_lt (blk_lt (g := gb169) (o := .cells #[.int .i64 a0_0, .int .i64 a0_1, .slice A0_2 l0_2.length c0_2] 24 (0, 0)) (by (with_reducible repeat (first | refine blk_drewN ?_ _ | refine blk_drew ?_ | refine blk_alloc ?_ _)); exact BK169.out)) : gb169 ≠ gb199)); have n9_ := Aside0.mk ((by rw [hg]; exact Nat.ne_of_gt (blk_lt (g := gb169) (o := .cells #[.int .i64 a0_0, .int .i64 a0_1, .slice A0_2 l0_2.length c0_2] 24 (0, 0)) (by (with_reducible repeat (first | refine blk_drewN ?_ _ | refine blk_drew ?_ | refine blk_alloc ?_ _)); exact BK169.out)) : gb199 ≠ gb169)); have n10_ := Aside0.mk ((by rw [hg]; exact Nat.ne_of_lt (blk_lt (g := gb192) (o := .cells #[.int .i64 t186, .int .i64 t187, .slice Ao49 t188.length co49] 24 (0, 0)) (by (with_reducible repeat (first | refine blk_drewN ?_ _ | refine blk_drew ?_ | refine blk_alloc ?_ _)); exact BK192.out)) : gb192 ≠ gb199)); have n11_ := Aside0.mk ((by rw [hg]; exact Nat.ne_of_gt (blk_lt (g := gb192) (o := .cells #[.int .i64 t186, .int .i64 t187, .slice Ao49 t188.length co49] 24 (0, 0)) (by (with_reducible repeat (first | refine blk_drewN ?_ _ | refine blk_drew ?_ | refine blk_alloc ?_ _)); exact BK192.out)) : gb199 ≠ gb192)); clear HO190; clear HO197; clear BK169; clear BK192; clear HB; have HO190 := n0_; have HO197 := n1_; have BK169 := n2_; have BK192 := n3_; have HB := n4_; have BK199 := n5_; have GW199 := n6_; have GE199 := n7_; have NB169_199 := n8_; have NB199_169 := n9_; have NB192_199 := n10_; have NB199_192 := n11_; clear n0_ n1_ n2_ n3_ n4_ n5_ n6_ n7_ n8_ n9_ n10_ n11_; clear hb hbox hg; have hnb52 := NB199_169.out; have hnc52 := NB169_199.out; have hnb53 := NB199_192.out; have hnc53 := NB192_199.out; have hcz54_0 : w51.cell? ⟨gb199, 0, none⟩ = some (.int .i64 0) := (blk_cell BK199.out 0).trans rfl; have hcz54_1 : w51.cell? ⟨gb199, 1, none⟩ = some (.int .i64 0) := (blk_cell BK199.out 1).trans rfl; have hcz54_2 : w51.cell? ⟨gb199, 2, none⟩ = some (.slice none 0 0) := (blk_cell BK199.out 2).trans rfl; have hfz54_0 := blk_frozen BK199.out 0; have hfz54_1 := blk_frozen BK199.out 1; have hfz54_2 := blk_frozen BK199.out 2; obtain ⟨Ao55, co55, eo55⟩ := Kd.R_slice HO197.out; subst eo55; have hcz56_0 : w51.cell? ⟨gb192, 0, none⟩ = some (.int .i64 t186) := (blk_cell BK192.out 0).trans rfl; have hcz56_1 : w51.cell? ⟨gb192, 1, none⟩ = some (.int .i64 t187) := (blk_cell BK192.out 1).trans rfl; have hcz56_2 : w51.cell? ⟨gb192, 2, none⟩ = some (.slice Ao49 t188.length co49) := (blk_cell BK192.out 2).trans rfl; have hfz56_0 := blk_frozen BK192.out 0; have hfz56_1 := blk_frozen BK192.out 1; have hfz56_2 := blk_frozen BK192.out 2) | (go_at_call 19; (with_reducible refine (lookoutref30_Same.calls kj2 t186 t187 _ _ t188 t193 t194 _ _ t195 true _ ?side1 ?side2 ?side3 ?side4 A29.out).mono ?_); (case side1 => refine (Kd.R_reads' (e := 3) (base := w.heap.size) (ok := fun k_ => (True ∧ some k_ ≠ (.slice Ao55 t195.length co55 : Value).ownBlock)) (n := t188.length) (c := co49) ?_).2.2; exact (by (with_reducible repeat (first | apply Kd.R_alloc | apply Kd.R_drewN | apply Kd.R_drew)); exact (Kd.R_mono (Kd.R_far (p := ⟨gb199, 2, none⟩) (Kd.R_far (p := ⟨gb199, 1, none⟩) (Kd.R_far (p := ⟨gb199, 0, none⟩) (Kd.R_types HO190.out BK199.out (by decide)) (fun _ hk => hk.2) (.int .i64 t193)) (fun _ hk => hk.2) (.int .i64 t194)) (fun _ hk => hk.2) (.slice Ao55 t195.length co55)) (fun _ h_ => h_.1)))); (case side2 => exact (Kd.R_reads' HO190.out).2.1); (case side3 => refine (Kd.R_reads' (e := 3) (base := w.heap.size) (ok := fun k_ => (True ∧ some k_ ≠ (.slice Ao49 t188.length co49 : Value).ownBlock)) (n := t195.length) (c := co55) ?_).2.2; exact (by (with_reducible repeat (first | apply Kd.R_alloc | apply Kd.R_drewN | apply Kd.R_drew)); exact (Kd.R_mono (Kd.R_far (p := ⟨gb199, 2, none⟩) (Kd.R_far (p := ⟨gb199, 1, none⟩) (Kd.R_far (p := ⟨gb199, 0, none⟩) (Kd.R_types HO197.out BK199.out (by decide)) (fun _ hk => hk.2) (.int .i64 t193)) (fun _ hk => hk.2) (.int .i64 t194)) (fun _ hk => hk.2) (.slice Ao55 t195.length co55)) (fun _ h_ => h_.1)))); (case side4 => exact (Kd.R_reads' HO197.out).2.1); rintro e w57 ⟨rfl, hb⟩; have n0_ := Aside0.mk (Kd.R_below (by (with_reducible repeat (first | apply Kd.R_alloc | apply Kd.R_drewN | apply Kd.R_drew)); exact (Kd.R_mono (Kd.R_far (p := ⟨gb199, 2, none⟩) (Kd.R_far (p := ⟨gb199, 1, none⟩) (Kd.R_far (p := ⟨gb199, 0, none⟩) (Kd.R_types HO190.out BK199.out (by decide)) (fun _ hk => hk.2) (.int .i64 t193)) (fun _ hk => hk.2) (.int .i64 t194)) (fun _ hk => hk.2) (.slice Ao55 t195.length co55)) (fun _ h_ => h_.1))) hb); have n1_ := Aside0.mk (Kd.R_below (by (with_reducible repeat (first | apply Kd.R_alloc | apply Kd.R_drewN | apply Kd.R_drew)); exact (Kd.R_mono (Kd.R_far (p := ⟨gb199, 2, none⟩) (Kd.R_far (p := ⟨gb199, 1, none⟩) (Kd.R_far (p := ⟨gb199, 0, none⟩) (Kd.R_types HO197.out BK199.out (by decide)) (fun _ hk => hk.2) (.int .i64 t193)) (fun _ hk => hk.2) (.int .i64 t194)) (fun _ hk => hk.2) (.slice Ao55 t195.length co55)) (fun _ h_ => h_.1))) hb); have n2_ := Aside0.mk (blk_below (g := gb169) (o := .cells #[.int .i64 a0_0, .int .i64 a0_1, .slice A0_2 l0_2.length c0_2] 24 (0, 0)) (by (with_reducible repeat (first | refine blk_drewN ?_ _ | refine blk_drew ?_ | refine blk_alloc ?_ _)); refine blk_far ?_ NB169_199.out _; (with_reducible repeat (first | refine blk_drewN ?_ _ | refine blk_drew ?_ | refine blk_alloc ?_ _)); refine blk_far ?_ NB169_199.out _; (with_reducible repeat (first | refine blk_drewN ?_ _ | refine blk_drew ?_ | refine blk_alloc ?_ _)); refine blk_far ?_ NB169_199.out _; (with_reducible repeat (first | refine blk_drewN ?_ _ | refine blk_drew ?_ | refine blk_alloc ?_ _)); exact BK169.out) hb); have n3_ := Aside0.mk (blk_below (g := gb192) (o := .cells #[.int .i64 t186, .int .i64 t187, .slice Ao49 t188.length co49] 24 (0, 0)) (by (with_reducible repeat (first | refine blk_drewN ?_ _ | refine blk_drew ?_ | refine blk_alloc ?_ _)); refine blk_far ?_ NB192_199.out _; (with_reducible repeat (first | refine blk_drewN ?_ _ | refine blk_drew ?_ | refine blk_alloc ?_ _)); refine blk_far ?_ NB192_199.out _; (with_reducible repeat (first | refine blk_drewN ?_ _ | refine blk_drew ?_ | refine blk_alloc ?_ _)); refine blk_far ?_ NB192_199.out _; (with_reducible repeat (first | refine blk_drewN ?_ _ | refine blk_drew ?_ | refine blk_alloc ?_ _)); exact BK192.out) hb); have n4_ := Aside0.mk (blk_below (g := gb199) (o := .cells #[.int .i64 t193, .int .i64 t194, .slice Ao55 t195.length co55] 24 (0, 0)) (by (with_reducible repeat (first | refine blk_drewN ?_ _ | refine blk_drew ?_ | refine blk_alloc ?_ _)); refine blk_put (cs := #[.int .i64 t193, .int .i64 t194, .slice none 0 0]) ?_ 2 _ rfl; (with_reducible repeat (first | refine blk_drewN ?_ _ | refine blk_drew ?_ | refine blk_alloc ?_ _)); refine blk_put (cs := #[.int .i64 t193, .int .i64 0, .slice none 0 0]) ?_ 1 _ rfl; (with_reducible repeat (first | refine blk_drewN ?_ _ | refine blk_drew ?_ | refine blk_alloc ?_ _)); refine blk_put (cs := #[.int .i64 0, .int .i64 0, .slice none 0 0]) ?_ 0 _ rfl; (with_reducible repeat (first | refine blk_drewN ?_ _ | refine blk_drew ?_ | refine blk_alloc ?_ _)); exact BK199.out) hb); have n5_ := Aside0.mk (below_step (by repeat (first | (with_reducible first | exact HB.out | apply below_alloc | apply pw_below_drewN | apply below_drew1 | refine below_set ?_ GE169.out | refine below_set ?_ GE192.out | refine below_set ?_ GE199.out) | exact HB.out)) hb); clear HO190; clear HO197; clear BK169; clear BK192; clear BK199; clear HB; have HO190 := n0_; have HO197 := n1_; have BK169 := n2_; have BK192 := n3_; have BK199 := n4_; have HB := n5_; clear n0_ n1_ n2_ n3_ n4_ n5_; (try clear hb); (try clear hb2); (try clear hk); (try clear hi)) | (go_at_call 12; (with_reducible refine (lookoutlaw30_awake.calls kj2  t201 _ A32.out).mono ?_); rintro e w58 ⟨rfl, hb⟩; have n0_ := Aside0.mk (Kd.R_below (by (with_reducible repeat (first | apply Kd.R_alloc | apply Kd.R_drewN | apply Kd.R_drew)); exact HO190.out) hb); have n1_ := Aside0.mk (Kd.R_below (by (with_reducible repeat (first | apply Kd.R_alloc | apply Kd.R_drewN | apply Kd.R_drew)); exact HO197.out) hb); have n2_ := Aside0.mk (blk_below (g := gb169) (o := .cells #[.int .i64 a0_0, .int .i64 a0_1, .slice A0_2 l0_2.length c0_2] 24 (0, 0)) (by (with_reducible repeat (first | refine blk_drewN ?_ _ | refine blk_drew ?_ | refine blk_alloc ?_ _)); exact BK169.out) hb); have n3_ := Aside0.mk (blk_below (g := gb192) (o := .cells #[.int .i64 t186, .int .i64 t187, .slice Ao49 t188.length co49] 24 (0, 0)) (by (with_reducible repeat (first | refine blk_drewN ?_ _ | refine blk_drew ?_ | refine blk_alloc ?_ _)); exact BK192.out) hb); have n4_ := Aside0.mk (blk_below (g := gb199) (o := .cells #[.int .i64 t193, .int .i64 t194, .slice Ao55 t195.length co55] 24 (0, 0)) (by (with_reducible repeat (first | refine blk_drewN ?_ _ | refine blk_drew ?_ | refine blk_alloc ?_ _)); exact BK199.out) hb); have n5_ := Aside0.mk (below_step (by repeat (first | (with_reducible first | exact HB.out | apply below_alloc | apply pw_below_drewN | apply below_drew1 | refine below_set ?_ GE169.out | refine below_set ?_ GE192.out | refine below_set ?_ GE199.out) | exact HB.out)) hb); clear HO190; clear HO197; clear BK169; clear BK192; clear BK199; clear HB; have HO190 := n0_; have HO197 := n1_; have BK169 := n2_; have BK192 := n3_; have BK199 := n4_; have HB := n5_; clear n0_ n1_ n2_ n3_ n4_ n5_; (try clear hb); (try clear hb2); (try clear hk); (try clear hi)))
                          go_ret
                          exact ⟨by first | rfl | (simp [errW_none, errW_some] <;> rfl) | (simp [*, errW_none, errW_some] <;> rfl), by repeat (first | (with_reducible first | exact HB.out | apply below_alloc | apply pw_below_drewN | apply below_drew1 | refine below_set ?_ GE169.out | refine below_set ?_ GE192.out | refine below_set ?_ GE199.out) | exact HB.out)⟩
                        · rw [if_neg c31] at H
                          exact absurd H (by simp)
                      · replace c30 := Bool.eq_false_iff.mpr c30
                        subst c30
                        have H1 : (none) = some r := by rw [if_neg (show ¬ (false = true) by decide)] at H; exact H
                        clear H
                        have H := H1
                        clear H1
                        exact absurd H (by simp)
                    · rw [if_neg c28] at H
                      exact absurd H (by simp)
                  · rw [if_neg c27] at H
                    exact absurd H (by simp)
                · rw [if_neg c26] at H
                  exact absurd H (by simp)
              · rw [if_neg c25] at H
                exact absurd H (by simp)
            · rw [if_neg c24] at H
              exact absurd H (by simp)
          · rw [if_neg c23] at H
            exact absurd H (by simp)
        · rw [if_neg c22] at H
          exact absurd H (by simp)

def lookoutlaw30_KmvEstimates.WT24 (x : S24) : Prop := (Lit.int .i64 x.f0).wf = true ∧ (Lit.int .i64 x.f1).wf = true ∧ (x.f2.length ≤ maxLen ∧ x.f2.length * 8 ≤ 140737488351232 ∧ ∀ y ∈ x.f2, (Lit.int .i64 y).wf = true)
/-- THE ONE PURE STATEMENT of lookoutlaw30_KmvEstimates. -/
def lookoutlaw30_KmvEstimates.Pure : Prop := ∀ (a0_0 : Int) (a0_1 : Int) (l0_2 : List Int) (a1 : ByteArray), (Lit.int .i64 a0_0).wf = true → (Lit.int .i64 a0_1).wf = true → l0_2.length ≤ maxLen → l0_2.length * 8 ≤ 140737488351232 → (∀ x ∈ l0_2, (Lit.int .i64 x).wf = true) → a1.size ≤ 140737488351232 → ∃ k, lookoutlaw30_KmvEstimates.f k a0_0 a0_1 l0_2 a1 = some true

end Go.Proofs.Ythblifjeecdhcaa.E
