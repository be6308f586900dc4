/- Printed by a program of this session: functions of the law's Go code as Lean functions, and that the Go code computes them. No condition beyond those in the statements. -/
import Derived.Test.YtkfplnbofgiknaaPx0
import Derived.Test.YtkfplnbofgiknaaPx3
import Derived.Test.YtkfplnbofgiknaaPx10
import Derived.Test.YtkfplnbofgiknaaPx11
import Derived.Test.YtkfplnbofgiknaaPx14
namespace Go.Proofs.Ytkfplnbofgiknaa.P
open Go.RowKit Go.Proofs.YtkfplnbofgiknaaW.PrintWords Go.Proofs.YtkfplnbofgiknaaW.PrintLast Go.Proofs.YtkfplnbofgiknaaW.PrintMore Go.Proofs.Ytkfplnbofgiknaa.Hand Go.Proofs.Ytkfplnbofgiknaa.A
attribute [local go_sem] max2_int min2_int max_two min_two max_three min_three max_four min_four   -- for this text's walks alone
set_option linter.unusedVariables false
set_option linter.unusedSimpArgs false

/-! ### lookoutlaw50_NetworkValid: function 9 -/
mutual
def lookoutlaw50_NetworkValid.j0 : Nat → Bool → Int → List Int → List (S44) → Int → Int → ByteArray → Option (Bool)
  | 0, _, _, _, _, _, _, _ => none
  | k + 1, x18, x146000, x146001, x146002, x147000, x147001, x147002 => if x18 = true then ((lookoutlaw50_awake.f k).bind fun t148 => (some t148)) else ((network_Send.f k x146000 x146001 x146002 x147000 x147001 x147002).bind fun bt149 => ((network_Step.f k x146000 x146001 x146002).bind fun bt158 => (if bt149.2.2.2 = 0 then ((network_Check.f k bt149.1 bt149.2.1 bt149.2.2.1).bind fun t170 => (if t170 = 0 then (if bt149.1 = x146000 then (if (bt149.2.2.1.length : Int) < (x146002.length : Int) then (lookoutlaw50_NetworkValid.j1 k bt158.2.2.2.1 bt158.2.2.2.2 true x146000 x146001 x146002 bt158.1 bt158.2.1 bt158.2.2.1) else (if 0 ≤ (x146002.length : Int) then (if (x146002.length : Int) ≤ (bt149.2.2.1.length : Int) then ((api_Flight_28.f k (bt149.2.2.1.take ((x146002.length : Int) : Int).toNat) x146002).bind fun t175 => (lookoutlaw50_NetworkValid.j1 k bt158.2.2.2.1 bt158.2.2.2.2 (!t175) x146000 x146001 x146002 bt158.1 bt158.2.1 bt158.2.2.1)) else (none)) else (none))) else (lookoutlaw50_NetworkValid.j1 k bt158.2.2.2.1 bt158.2.2.2.2 true x146000 x146001 x146002 bt158.1 bt158.2.1 bt158.2.2.1)) else (lookoutlaw50_NetworkValid.j1 k bt158.2.2.2.1 bt158.2.2.2.2 true x146000 x146001 x146002 bt158.1 bt158.2.1 bt158.2.2.1))) else (lookoutlaw50_NetworkValid.j1 k bt158.2.2.2.1 bt158.2.2.2.2 false x146000 x146001 x146002 bt158.1 bt158.2.1 bt158.2.2.1))))
def lookoutlaw50_NetworkValid.j1 : Nat → List (S27) → Int → Bool → Int → List Int → List (S44) → Int → List Int → List (S44) → Option (Bool)
  | 0, _, _, _, _, _, _, _, _, _ => none
  | k + 1, x8, x9, x66, x146000, x146001, x146002, x170000, x170001, x170002 => if x66 = true then (none) else (if x9 = 0 then ((clone_flight.f x146002).bind fun t177 => ((delete_due.f t177 x146000 x146001 x146002).bind fun t180 => ((network_Check.f k x170000 x170001 x170002).bind fun t183 => (if t183 = 0 then (if x170000 = (wrap64 (x146000 + 1)) then ((api_Flight_28.f k x170002 t180).bind fun t184 => (if t184 = true then (if (x8.length : Int) = (wrap64 ((x146002.length : Int) - (t180.length : Int))) then ((slices_Equal_int_int.f k x170001 x146001).bind fun t185 => (if t185 = true then ((lookoutlaw50_awake.f k).bind fun t186 => (some t186)) else (none))) else (none)) else (none))) else (none)) else (none))))) else (if (x8.length : Int) = 0 then ((lookoutlaw50_awake.f k).bind fun t176 => (some t176)) else (none)))
end
def lookoutlaw50_NetworkValid.f (k : Nat) (a0_0 : Int) (l0_1 : List Int) (l0_2 : List (S44)) (a1_0 : Int) (a1_1 : Int) (a1_2 : ByteArray) : Option (Bool) := (lookoutref50_Great.f k a0_0 l0_1 l0_2).bind fun t147 => (if t147 = true then (lookoutlaw50_NetworkValid.j0 k true a0_0 l0_1 l0_2 a1_0 a1_1 a1_2) else (lookoutlaw50_NetworkValid.j0 k (decide ((a1_2.size : Int) > 2000)) a0_0 l0_1 l0_2 a1_0 a1_1 a1_2))
theorem lookoutlaw50_NetworkValid.mono_l : ∀ k, (∀ y0 y1 y2 y3 y4 y5 y6, LeO (lookoutlaw50_NetworkValid.j0 k y0 y1 y2 y3 y4 y5 y6) (lookoutlaw50_NetworkValid.j0 (k + 1) y0 y1 y2 y3 y4 y5 y6)) ∧ (∀ y0 y1 y2 y3 y4 y5 y6 y7 y8, LeO (lookoutlaw50_NetworkValid.j1 k y0 y1 y2 y3 y4 y5 y6 y7 y8) (lookoutlaw50_NetworkValid.j1 (k + 1) y0 y1 y2 y3 y4 y5 y6 y7 y8))
  | 0 => ⟨fun _ _ _ _ _ _ _ r h => by simp [lookoutlaw50_NetworkValid.j0] at h, fun _ _ _ _ _ _ _ _ _ r h => by simp [lookoutlaw50_NetworkValid.j1] at h⟩
  | k + 1 => by
    obtain ⟨ih0, ih1⟩ := lookoutlaw50_NetworkValid.mono_l k
    refine ⟨?_, ?_⟩
    · intro y0 y1 y2 y3 y4 y5 y6
      unfold lookoutlaw50_NetworkValid.j0
      repeat' first
      | (with_reducible exact ih0 _ _ _ _ _ _ _)
      | (with_reducible exact ih1 _ _ _ _ _ _ _ _ _)
      | (with_reducible exact api_Flight_28.mono _ _ _)
      | (with_reducible exact lookoutlaw50_awake.mono _)
      | (with_reducible exact lookoutref50_Great.mono _ _ _ _)
      | (with_reducible exact network_Check.mono _ _ _ _)
      | (with_reducible exact network_Send.mono _ _ _ _ _ _ _)
      | (with_reducible exact network_Step.mono _ _ _ _)
      | (with_reducible exact slices_Equal_int_int.mono _ _ _)
      | (with_reducible exact LeO.refl _)
      | (with_reducible exact LeO.none _)
      | (with_reducible refine LeO.ite ?_ ?_)
      | (with_reducible refine LeO.bind ?_ (fun _ => ?_))
      | exact ih0 _ _ _ _ _ _ _
      | exact ih1 _ _ _ _ _ _ _ _ _
      | exact api_Flight_28.mono _ _ _
      | exact lookoutlaw50_awake.mono _
      | exact lookoutref50_Great.mono _ _ _ _
      | exact network_Check.mono _ _ _ _
      | exact network_Send.mono _ _ _ _ _ _ _
      | exact network_Step.mono _ _ _ _
      | exact slices_Equal_int_int.mono _ _ _
      | exact LeO.none _
      | refine LeO.ite ?_ ?_
      | refine LeO.bind ?_ (fun _ => ?_)
    · intro y0 y1 y2 y3 y4 y5 y6 y7 y8
      unfold lookoutlaw50_NetworkValid.j1
      repeat' first
      | (with_reducible exact ih0 _ _ _ _ _ _ _)
      | (with_reducible exact ih1 _ _ _ _ _ _ _ _ _)
      | (with_reducible exact api_Flight_28.mono _ _ _)
      | (with_reducible exact lookoutlaw50_awake.mono _)
      | (with_reducible exact lookoutref50_Great.mono _ _ _ _)
      | (with_reducible exact network_Check.mono _ _ _ _)
      | (with_reducible exact network_Send.mono _ _ _ _ _ _ _)
      | (with_reducible exact network_Step.mono _ _ _ _)
      | (with_reducible exact slices_Equal_int_int.mono _ _ _)
      | (with_reducible exact LeO.refl _)
      | (with_reducible exact LeO.none _)
      | (with_reducible refine LeO.ite ?_ ?_)
      | (with_reducible refine LeO.bind ?_ (fun _ => ?_))
      | exact ih0 _ _ _ _ _ _ _
      | exact ih1 _ _ _ _ _ _ _ _ _
      | exact api_Flight_28.mono _ _ _
      | exact lookoutlaw50_awake.mono _
      | exact lookoutref50_Great.mono _ _ _ _
      | exact network_Check.mono _ _ _ _
      | exact network_Send.mono _ _ _ _ _ _ _
      | exact network_Step.mono _ _ _ _
      | exact slices_Equal_int_int.mono _ _ _
      | exact LeO.none _
      | refine LeO.ite ?_ ?_
      | refine LeO.bind ?_ (fun _ => ?_)
theorem lookoutlaw50_NetworkValid.mono : ∀ a0 a1 a2 a3 a4 a5 k, LeO (lookoutlaw50_NetworkValid.f k a0 a1 a2 a3 a4 a5) (lookoutlaw50_NetworkValid.f (k + 1) a0 a1 a2 a3 a4 a5) := by
  intro a0 a1 a2 a3 a4 a5 k
  obtain ⟨ih0, ih1⟩ := lookoutlaw50_NetworkValid.mono_l k
  unfold lookoutlaw50_NetworkValid.f
  repeat' first
      | (with_reducible exact ih0 _ _ _ _ _ _ _)
      | (with_reducible exact ih1 _ _ _ _ _ _ _ _ _)
      | (with_reducible exact api_Flight_28.mono _ _ _)
      | (with_reducible exact lookoutlaw50_awake.mono _)
      | (with_reducible exact lookoutref50_Great.mono _ _ _ _)
      | (with_reducible exact network_Check.mono _ _ _ _)
      | (with_reducible exact network_Send.mono _ _ _ _ _ _ _)
      | (with_reducible exact network_Step.mono _ _ _ _)
      | (with_reducible exact slices_Equal_int_int.mono _ _ _)
      | (with_reducible exact LeO.refl _)
      | (with_reducible exact LeO.none _)
      | (with_reducible refine LeO.ite ?_ ?_)
      | (with_reducible refine LeO.bind ?_ (fun _ => ?_))
      | exact ih0 _ _ _ _ _ _ _
      | exact ih1 _ _ _ _ _ _ _ _ _
      | exact api_Flight_28.mono _ _ _
      | exact lookoutlaw50_awake.mono _
      | exact lookoutref50_Great.mono _ _ _ _
      | exact network_Check.mono _ _ _ _
      | exact network_Send.mono _ _ _ _ _ _ _
      | exact network_Step.mono _ _ _ _
      | exact slices_Equal_int_int.mono _ _ _
      | exact LeO.none _
      | refine LeO.ite ?_ ?_
      | refine LeO.bind ?_ (fun _ => ?_)
def lookoutlaw50_NetworkValid.T5 : Bool × List (List Nat × List Nat) := (true, [([], []), ([0], [0]), ([1], [1]), ([2], [2]), ([3, 2, 2], [2, 3]), ([4, 2], [2, 4]), ([5, 4, 2], [2, 5]), ([6], [6]), ([7, 6], [6, 7]), ([6], [6]), ([9, 6], [6, 9]), ([8, 10, 6], [6, 8, 10]), ([6, 11, 2], [2, 6, 11]), ([12, 6, 2], [2, 12]), ([13], [13]), ([14, 13], [13, 14]), ([15, 13], [13, 15]), ([13], [13]), ([17, 13], [13, 17]), ([18, 13], [13, 18]), ([16, 19, 13], [13, 16, 19]), ([13, 20, 2], [2, 13, 20]), ([21, 13, 2], [2, 21]), ([22], [22]), ([23, 22], [22, 23]), ([22], [22]), ([25, 22], [22, 25]), ([26, 22], [22, 26]), ([24, 27, 22], [22, 24, 27]), ([22], [22]), ([29, 22], [22, 29]), ([28, 30, 22, 22], [22, 28, 30]), ([31, 22], [22, 31]), ([22, 32, 2], [2, 22, 32]), ([2, 33], [2, 33])])
def lookoutlaw50_NetworkValid.B5 : List Nat := [0, 1, 3, 7, 15, 31, 63, 127, 255, 127, 639, 2047, 4095, 8191, 16383, 32767, 65535, 16383, 147455, 409599, 1048575, 2097151, 4194303, 8388607, 16777215, 8388607, 41943039, 109051903, 268435455, 8388607, 545259519, 2147483647, 4294967295, 8589934591, 17179869183]
theorem lookoutlaw50_NetworkValid.tab5 : rtab .any (opsOf Try.f9 5) = lookoutlaw50_NetworkValid.T5 := by kernel_rfl
theorem lookoutlaw50_NetworkValid.bits5 : waitsOk lookoutlaw50_NetworkValid.T5.2 lookoutlaw50_NetworkValid.B5 = true := by kernel_rfl
set_option maxHeartbeats 8000000 in
set_option maxRecDepth 100000 in
theorem lookoutlaw50_NetworkValid.calls (k : Nat) (a0_0 : Int) (A0_1 : Option Addr) (c0_1 : Nat) (l0_1 : List Int) (A0_2 : Option Addr) (c0_2 : Nat) (l0_2 : List (S44)) (a1_0 : Int) (a1_1 : Int) (a1_2 : ByteArray) (r : Bool) (w : World) (hr0_1 : Kd.C (Kd.int .i64) w A0_1 l0_1.length l0_1) (hc0_1 : l0_1.length ≤ c0_1) (hr0_2 : Kd.C k44 w A0_2 l0_2.length l0_2) (hc0_2 : l0_2.length ≤ c0_2) (h : lookoutlaw50_NetworkValid.f k a0_0 l0_1 l0_2 a1_0 a1_1 a1_2 = some r) :
    Calls Try.prog 9 #[.agg #[.int .i64 a0_0, .slice A0_1 l0_1.length c0_1, .slice A0_2 l0_2.length c0_2], .agg #[.int .i64 a1_0, .int .i64 a1_1, .string a1_2]] w fun e w' => e = .returned (.bool r) ∧ Below w.heap.size w w' := by
  have hu25 := Try.underlying25
  have hu27 := Try.underlying27
  have HR0_1 := aS hr0_1
  have HC0_1 := aS hc0_1
  clear hr0_1 hc0_1
  have HR0_2 := aS hr0_2
  have HC0_2 := aS hc0_2
  clear hr0_2 hc0_2
  have HB := aS (Below.refl w.heap.size w)
  have H : ((lookoutref50_Great.f k a0_0 l0_1 l0_2).bind fun t147 => (if t147 = true then (lookoutlaw50_NetworkValid.j0 k true a0_0 l0_1 l0_2 a1_0 a1_1 a1_2) else (lookoutlaw50_NetworkValid.j0 k (decide ((a1_2.size : Int) > 2000)) a0_0 l0_1 l0_2 a1_0 a1_1 a1_2))) = some r := h
  clear h
  have HC3 := aS H
  clear H
  go_enter Try.func9, Try.ntmps9
  go_upto_region 1 with (first | ((with_reducible refine gate_dst (N := 2) rfl ?_);(try (refine gate_guard (by rfl) ?_;dsimp only));refine box_event ?hg (N := 2) ?hd (cs := #[.int .i64 a0_0, .slice A0_1 l0_1.length c0_1, .slice A0_2 l0_2.length c0_2]) (t := 25) ?hr ?_;(case hd => rfl);(case hg => rfl);(case hr => first | (go_simp;done) | (go_simp;rfl));intro gb145 hg w4 hbox hb;have n0_ := aS (below_step (by repeat (first | (with_reducible first | exact HB.out | apply bA|apply bN|apply bD) | exact HB.out)) hb);have n1_ := aS (hbox);have n2_ := aS ((by rw [hg];exact (below_size (by repeat (first | (with_reducible first | exact HB.out | apply bA|apply bN|apply bD) | exact HB.out))) : w.heap.size ≤ gb145));have n3_ := aS ((by rw [hg];exact (below_size (by repeat (first | (with_reducible first | exact HB.out | apply bA|apply bN|apply bD) | exact HB.out))) : w.heap.size ≤ gb145));clear HB;have HB := n0_;have BK145 := n1_;have GW145 := n2_;have GE145 := n3_;clear n0_ n1_ n2_ n3_;clear hb hbox hg) | ((with_reducible refine gate_dst (N := 3) rfl ?_);(try (refine gate_guard (by rfl) ?_;dsimp only));refine box_event ?hg (N := 3) ?hd (cs := #[.int .i64 a1_0, .int .i64 a1_1, .string a1_2]) (t := 27) ?hr ?_;(case hd => rfl);(case hg => rfl);(case hr => first | (go_simp;done) | (go_simp;rfl));intro gb146 hg w5 hbox hb;have n0_ := aS (blk_below (g := gb145) (o := .cells #[.int .i64 a0_0, .slice A0_1 l0_1.length c0_1, .slice A0_2 l0_2.length c0_2] 25 (0, 0)) (by (with_reducible repeat (first | refine blk_drewN ?_ _ | refine blk_drew ?_ | refine blk_alloc ?_ _));exact BK145.out) hb);have n1_ := aS (below_step (by repeat (first | (with_reducible first | exact HB.out | apply bA|apply bN|apply bD | refine below_set ?_ GE145.out) | exact HB.out)) hb);have n2_ := aS (hbox);have n3_ := aS ((by rw [hg];exact (below_size (by repeat (first | (with_reducible first | exact HB.out | apply bA|apply bN|apply bD | refine below_set ?_ GE145.out) | exact HB.out))) : w.heap.size ≤ gb146));have n4_ := aS ((by rw [hg];exact (below_size (by repeat (first | (with_reducible first | exact HB.out | apply bA|apply bN|apply bD | refine below_set ?_ GE145.out) | exact HB.out))) : w.heap.size ≤ gb146));have n5_ := aS ((by rw [hg];exact Nat.ne_of_lt (blk_lt (g := gb145) (o := .cells #[.int .i64 a0_0, .slice A0_1 l0_1.length c0_1, .slice A0_2 l0_2.length c0_2] 25 (0, 0)) (by (with_reducible repeat (first | refine blk_drewN ?_ _ | refine blk_drew ?_ | refine blk_alloc ?_ _));exact BK145.out)) : gb145 ≠ gb146));have n6_ := aS ((by rw [hg];exact Nat.ne_of_gt (blk_lt (g := gb145) (o := .cells #[.int .i64 a0_0, .slice A0_1 l0_1.length c0_1, .slice A0_2 l0_2.length c0_2] 25 (0, 0)) (by (with_reducible repeat (first | refine blk_drewN ?_ _ | refine blk_drew ?_ | refine blk_alloc ?_ _));exact BK145.out)) : gb146 ≠ gb145));clear BK145 HB;have BK145 := n0_;have HB := n1_;have BK146 := n2_;have GW146 := n3_;have GE146 := n4_;have NB145_146 := n5_;have NB146_145 := n6_;clear n0_ n1_ n2_ n3_ n4_ n5_ n6_;clear hb hbox hg))
  (try simp only [Act.put, List.setIfInBounds_toArray, List.set_cons_zero, List.set_cons_succ])
  go_cut [18] (fun v18 wc => ∃ (kq : Nat) (x18_2 : Bool), v18 = .bool x18_2 ∧ Aside0 (lookoutlaw50_NetworkValid.j0 kq x18_2 a0_0 l0_1 l0_2 a1_0 a1_1 a1_2 = some r) ∧ Aside0 (kq ≤ k) ∧ Aside0 (wc.heap[gb145]? = some (.cells #[.int .i64 a0_0, (.slice A0_1 l0_1.length c0_1), (.slice A0_2 l0_2.length c0_2)] 25 (0, 0))) ∧ Aside0 (wc.heap[gb146]? = some (.cells #[.int .i64 a1_0, .int .i64 a1_1, .string a1_2] 27 (0, 0))) ∧ Aside0 (Below w.heap.size w wc))
  case first =>
    have H := HC3.out
    clear HC3
    replace H := Option.bind_eq_some_iff.mp H
    obtain ⟨t147, A60, H⟩ := H
    replace H : (if t147 = true then (lookoutlaw50_NetworkValid.j0 k true a0_0 l0_1 l0_2 a1_0 a1_1 a1_2) else (lookoutlaw50_NetworkValid.j0 k (decide ((a1_2.size : Int) > 2000)) a0_0 l0_1 l0_2 a1_0 a1_1 a1_2)) = some r := H
    have A6 := aS A60
    clear A60
    by_cases c7 : t147 = true
    · subst c7
      have H1 : (lookoutlaw50_NetworkValid.j0 k true a0_0 l0_1 l0_2 a1_0 a1_1 a1_2) = some r := by rw [if_pos rfl] at H; exact H
      clear H
      have H := H1
      clear H1
      have H' := aS H
      clear H
      have hnb8 := NB145_146.out
      have hnc8 := NB146_145.out
      have hcz9_0 : w5.cell? ⟨gb145, 0, none⟩ = some (.int .i64 a0_0) := (blk_cell BK145.out 0).trans rfl
      have hcz9_1 : w5.cell? ⟨gb145, 1, none⟩ = some (.slice A0_1 l0_1.length c0_1) := (blk_cell BK145.out 1).trans rfl
      have hcz9_2 : w5.cell? ⟨gb145, 2, none⟩ = some (.slice A0_2 l0_2.length c0_2) := (blk_cell BK145.out 2).trans rfl
      have hfz9_0 := blk_frozen BK145.out 0
      have hfz9_1 := blk_frozen BK145.out 1
      have hfz9_2 := blk_frozen BK145.out 2
      go_wp2_with (first | ((with_reducible refine gate_callee (f := 10) rfl ?_); refine goesL_ (some 12) rfl rfl Try.func10 (by kernel_rfl) rfl #[.agg #[.int .i64 a0_0, .slice A0_1 l0_1.length c0_1, .slice A0_2 l0_2.length c0_2]] rfl (by (try simp only [List.map_toArray, List.map_cons, List.map_nil]); first | done | rfl | (simp only [List.length_drop, List.length_take]; rfl)) ?_; (with_reducible refine (lookoutref50_Great.calls k a0_0 _ _ l0_1 _ _ l0_2 true _ ?side1 ?side2 ?side3 ?side4 A6.out).mono ?_); (case side1 => repeat (first | exact (Kd.C_below HR0_1.out HB.out) | (with_reducible refine Kd.C_alloc ?_ _) | (with_reducible refine Kd.C_drewN ?_ _) | (with_reducible refine Kd.C_drew ?_))); (case side2 => exact HC0_1.out); (case side3 => repeat (first | exact (Kd.C_below HR0_2.out HB.out) | (with_reducible refine Kd.C_alloc ?_ _) | (with_reducible refine Kd.C_drewN ?_ _) | (with_reducible refine Kd.C_drew ?_))); (case side4 => exact HC0_2.out); rintro e w10 ⟨rfl, hb⟩; refine ⟨_, rfl, ?_⟩; have n0_ := aS (blk_below (g := gb145) (o := .cells #[.int .i64 a0_0, .slice A0_1 l0_1.length c0_1, .slice A0_2 l0_2.length c0_2] 25 (0, 0)) (by (with_reducible repeat (first | refine blk_drewN ?_ _ | refine blk_drew ?_ | refine blk_alloc ?_ _)); exact BK145.out) hb); have n1_ := aS (blk_below (g := gb146) (o := .cells #[.int .i64 a1_0, .int .i64 a1_1, .string a1_2] 27 (0, 0)) (by (with_reducible repeat (first | refine blk_drewN ?_ _ | refine blk_drew ?_ | refine blk_alloc ?_ _)); exact BK146.out) hb); have n2_ := aS (below_step (by repeat (first | (with_reducible first | exact HB.out | apply bA|apply bN|apply bD | refine below_set ?_ GE145.out | refine below_set ?_ GE146.out) | exact HB.out)) hb); clear BK145 BK146 HB; have BK145 := n0_; have BK146 := n1_; have HB := n2_; clear n0_ n1_ n2_; (try clear hb); (try clear hb2); (try clear hk); (try clear hi)))
      go_meet
      case rel => exact ⟨_, (true), (by first | rfl | (simp; done) | (simp [*]; done)), H', ⟨by first | omega | exact Nat.le_refl _⟩, ⟨by (with_reducible repeat (first | refine blk_drewN ?_ _ | refine blk_drew ?_ | refine blk_alloc ?_ _)); exact BK145.out⟩, ⟨by (with_reducible repeat (first | refine blk_drewN ?_ _ | refine blk_drew ?_ | refine blk_alloc ?_ _)); exact BK146.out⟩, ⟨by repeat (first | (with_reducible first | exact HB.out | apply bA|apply bN|apply bD | refine below_set ?_ GE145.out | refine below_set ?_ GE146.out) | exact HB.out)⟩⟩
    · replace c7 := Bool.eq_false_iff.mpr c7
      subst c7
      have H1 : (lookoutlaw50_NetworkValid.j0 k (decide ((a1_2.size : Int) > 2000)) a0_0 l0_1 l0_2 a1_0 a1_1 a1_2) = some r := by rw [if_neg (show ¬ (false = true) by decide)] at H; exact H
      clear H
      have H := H1
      clear H1
      have H' := aS H
      clear H
      have hnb11 := NB145_146.out
      have hnc11 := NB146_145.out
      have hcz12_0 : w5.cell? ⟨gb145, 0, none⟩ = some (.int .i64 a0_0) := (blk_cell BK145.out 0).trans rfl
      have hcz12_1 : w5.cell? ⟨gb145, 1, none⟩ = some (.slice A0_1 l0_1.length c0_1) := (blk_cell BK145.out 1).trans rfl
      have hcz12_2 : w5.cell? ⟨gb145, 2, none⟩ = some (.slice A0_2 l0_2.length c0_2) := (blk_cell BK145.out 2).trans rfl
      have hfz12_0 := blk_frozen BK145.out 0
      have hfz12_1 := blk_frozen BK145.out 1
      have hfz12_2 := blk_frozen BK145.out 2
      go_wp2_with (first | ((with_reducible refine gate_callee (f := 10) rfl ?_);refine goesL_ (some 12) rfl rfl Try.func10 (by kernel_rfl) rfl #[.agg #[.int .i64 a0_0, .slice A0_1 l0_1.length c0_1, .slice A0_2 l0_2.length c0_2]] rfl (by (try simp only [List.map_toArray, List.map_cons, List.map_nil]);first | done | rfl | (simp only [List.length_drop, List.length_take];rfl)) ?_;(with_reducible refine (lookoutref50_Great.calls k a0_0 _ _ l0_1 _ _ l0_2 false _ ?side1 ?side2 ?side3 ?side4 A6.out).mono ?_);(case side1 => repeat (first | exact (Kd.C_below HR0_1.out HB.out) | (with_reducible refine Kd.C_alloc ?_ _) | (with_reducible refine Kd.C_drewN ?_ _) | (with_reducible refine Kd.C_drew ?_)));(case side2 => exact HC0_1.out);(case side3 => repeat (first | exact (Kd.C_below HR0_2.out HB.out) | (with_reducible refine Kd.C_alloc ?_ _) | (with_reducible refine Kd.C_drewN ?_ _) | (with_reducible refine Kd.C_drew ?_)));(case side4 => exact HC0_2.out);rintro e w13 ⟨rfl, hb⟩;refine ⟨_, rfl, ?_⟩;have n0_ := aS (blk_below (g := gb145) (o := .cells #[.int .i64 a0_0, .slice A0_1 l0_1.length c0_1, .slice A0_2 l0_2.length c0_2] 25 (0, 0)) (by (with_reducible repeat (first | refine blk_drewN ?_ _ | refine blk_drew ?_ | refine blk_alloc ?_ _));exact BK145.out) hb);have n1_ := aS (blk_below (g := gb146) (o := .cells #[.int .i64 a1_0, .int .i64 a1_1, .string a1_2] 27 (0, 0)) (by (with_reducible repeat (first | refine blk_drewN ?_ _ | refine blk_drew ?_ | refine blk_alloc ?_ _));exact BK146.out) hb);have n2_ := aS (below_step (by repeat (first | (with_reducible first | exact HB.out | apply bA|apply bN|apply bD | refine below_set ?_ GE145.out | refine below_set ?_ GE146.out) | exact HB.out)) hb);clear BK145 BK146 HB;have BK145 := n0_;have BK146 := n1_;have HB := n2_;clear n0_ n1_ n2_;(try clear hb);(try clear hb2);(try clear hk);(try clear hi);have hcz14_0 : w13.cell? ⟨gb146, 0, none⟩ = some (.int .i64 a1_0) := (blk_cell BK146.out 0).trans rfl;have hcz14_1 : w13.cell? ⟨gb146, 1, none⟩ = some (.int .i64 a1_1) := (blk_cell BK146.out 1).trans rfl;have hcz14_2 : w13.cell? ⟨gb146, 2, none⟩ = some (.string a1_2) := (blk_cell BK146.out 2).trans rfl;have hfz14_0 := blk_frozen BK146.out 0;have hfz14_1 := blk_frozen BK146.out 1;have hfz14_2 := blk_frozen BK146.out 2))
      go_meet
      case rel => exact ⟨_, (decide ((a1_2.size : Int) > 2000)), (by first | rfl | (simp; done) | (simp [*]; done)), H', ⟨by first | omega | exact Nat.le_refl _⟩, ⟨by (with_reducible repeat (first | refine blk_drewN ?_ _ | refine blk_drew ?_ | refine blk_alloc ?_ _)); exact BK145.out⟩, ⟨by (with_reducible repeat (first | refine blk_drewN ?_ _ | refine blk_drew ?_ | refine blk_alloc ?_ _)); exact BK146.out⟩, ⟨by repeat (first | (with_reducible first | exact HB.out | apply bA|apply bN|apply bD | refine below_set ?_ GE145.out | refine below_set ?_ GE146.out) | exact HB.out)⟩⟩
  case rest =>
    clear HC3
    try clear c1
    try clear p2
    try clear c7
    try clear c8
    try clear c9
    try clear c10
    try clear c11
    try clear hcz12_0
    try clear hcz12_1
    try clear hcz12_2
    try clear hcz14_0
    try clear hcz14_1
    try clear hcz14_2
    try clear hcz9_0
    try clear hcz9_1
    try clear hcz9_2
    try clear hfz12_0
    try clear hfz12_1
    try clear hfz12_2
    try clear hfz14_0
    try clear hfz14_1
    try clear hfz14_2
    try clear hfz9_0
    try clear hfz9_1
    try clear hfz9_2
    obtain ⟨kq, x18_2, rfl, HA, HJ2, BK145, BK146, HB⟩ := hcut
    cases kq with
    | zero => exact absurd HA.out (by simp [lookoutlaw50_NetworkValid.j0])
    | succ kj2 =>
      have H := HA.out
      clear HA
      simp only [lookoutlaw50_NetworkValid.j0] at H
      by_cases c15 : x18_2 = true
      · subst c15
        have H1 : ((lookoutlaw50_awake.f kj2).bind fun t148 => (some t148)) = some r := by rw [if_pos rfl] at H; exact H
        clear H
        have H := H1
        clear H1
        replace H := Option.bind_eq_some_iff.mp H
        obtain ⟨t148, A160, H⟩ := H
        replace H : (some t148) = some r := H
        have A16 := aS A160
        clear A160
        obtain rfl := Option.some.inj H
        go_wp2_with (first | ((with_reducible refine gate_callee (f := 11) rfl ?_); refine goesL_ (some 19) rfl rfl Try.func11 (by kernel_rfl) rfl #[] rfl (by (try simp only [List.map_toArray, List.map_cons, List.map_nil]); first | done | rfl | (simp only [List.length_drop, List.length_take]; rfl)) ?_; (with_reducible refine (lookoutlaw50_awake.calls kj2  t148 _ A16.out).mono ?_); rintro e w17 ⟨rfl, hb⟩; refine ⟨_, rfl, ?_⟩; have n0_ := aS (blk_below (g := gb145) (o := .cells #[.int .i64 a0_0, .slice A0_1 l0_1.length c0_1, .slice A0_2 l0_2.length c0_2] 25 (0, 0)) (by (with_reducible repeat (first | refine blk_drewN ?_ _ | refine blk_drew ?_ | refine blk_alloc ?_ _)); exact BK145.out) hb); have n1_ := aS (blk_below (g := gb146) (o := .cells #[.int .i64 a1_0, .int .i64 a1_1, .string a1_2] 27 (0, 0)) (by (with_reducible repeat (first | refine blk_drewN ?_ _ | refine blk_drew ?_ | refine blk_alloc ?_ _)); exact BK146.out) hb); have n2_ := aS (below_step (by repeat (first | (with_reducible first | exact HB.out | apply bA|apply bN|apply bD | refine below_set ?_ GE145.out | refine below_set ?_ GE146.out) | exact HB.out)) hb); clear BK145 BK146 HB; have BK145 := n0_; have BK146 := n1_; have HB := n2_; clear n0_ n1_ n2_; (try clear hb); (try clear hb2); (try clear hk); (try clear hi)))
        go_ret
        exact ⟨by first | rfl | (simp [errW_none, errW_some] <;> rfl) | (simp [*, errW_none, errW_some] <;> rfl), by repeat (first | (with_reducible first | exact HB.out | apply bA|apply bN|apply bD | refine below_set ?_ GE145.out | refine below_set ?_ GE146.out) | exact HB.out)⟩
      · replace c15 := Bool.eq_false_iff.mpr c15
        subst c15
        have H1 : ((network_Send.f kj2 a0_0 l0_1 l0_2 a1_0 a1_1 a1_2).bind fun bt149 => ((network_Step.f kj2 a0_0 l0_1 l0_2).bind fun bt158 => (if bt149.2.2.2 = 0 then ((network_Check.f kj2 bt149.1 bt149.2.1 bt149.2.2.1).bind fun t170 => (if t170 = 0 then (if bt149.1 = a0_0 then (if (bt149.2.2.1.length : Int) < (l0_2.length : Int) then (lookoutlaw50_NetworkValid.j1 kj2 bt158.2.2.2.1 bt158.2.2.2.2 true a0_0 l0_1 l0_2 bt158.1 bt158.2.1 bt158.2.2.1) else (if 0 ≤ (l0_2.length : Int) then (if (l0_2.length : Int) ≤ (bt149.2.2.1.length : Int) then ((api_Flight_28.f kj2 (bt149.2.2.1.take ((l0_2.length : Int) : Int).toNat) l0_2).bind fun t175 => (lookoutlaw50_NetworkValid.j1 kj2 bt158.2.2.2.1 bt158.2.2.2.2 (!t175) a0_0 l0_1 l0_2 bt158.1 bt158.2.1 bt158.2.2.1)) else (none)) else (none))) else (lookoutlaw50_NetworkValid.j1 kj2 bt158.2.2.2.1 bt158.2.2.2.2 true a0_0 l0_1 l0_2 bt158.1 bt158.2.1 bt158.2.2.1)) else (lookoutlaw50_NetworkValid.j1 kj2 bt158.2.2.2.1 bt158.2.2.2.2 true a0_0 l0_1 l0_2 bt158.1 bt158.2.1 bt158.2.2.1))) else (lookoutlaw50_NetworkValid.j1 kj2 bt158.2.2.2.1 bt158.2.2.2.2 false a0_0 l0_1 l0_2 bt158.1 bt158.2.1 bt158.2.2.1)))) = some r := by rw [if_neg (show ¬ (false = true) by decide)] at H; exact H
        clear H
        have H := H1
        clear H1
        replace H := Option.bind_eq_some_iff.mp H
        obtain ⟨⟨t149, t150, t153, t156⟩, A180, H⟩ := H
        replace H : ((network_Step.f kj2 a0_0 l0_1 l0_2).bind fun bt158 => (if t156 = 0 then ((network_Check.f kj2 t149 t150 t153).bind fun t170 => (if t170 = 0 then (if t149 = a0_0 then (if (t153.length : Int) < (l0_2.length : Int) then (lookoutlaw50_NetworkValid.j1 kj2 bt158.2.2.2.1 bt158.2.2.2.2 true a0_0 l0_1 l0_2 bt158.1 bt158.2.1 bt158.2.2.1) else (if 0 ≤ (l0_2.length : Int) then (if (l0_2.length : Int) ≤ (t153.length : Int) then ((api_Flight_28.f kj2 (t153.take ((l0_2.length : Int) : Int).toNat) l0_2).bind fun t175 => (lookoutlaw50_NetworkValid.j1 kj2 bt158.2.2.2.1 bt158.2.2.2.2 (!t175) a0_0 l0_1 l0_2 bt158.1 bt158.2.1 bt158.2.2.1)) else (none)) else (none))) else (lookoutlaw50_NetworkValid.j1 kj2 bt158.2.2.2.1 bt158.2.2.2.2 true a0_0 l0_1 l0_2 bt158.1 bt158.2.1 bt158.2.2.1)) else (lookoutlaw50_NetworkValid.j1 kj2 bt158.2.2.2.1 bt158.2.2.2.2 true a0_0 l0_1 l0_2 bt158.1 bt158.2.1 bt158.2.2.1))) else (lookoutlaw50_NetworkValid.j1 kj2 bt158.2.2.2.1 bt158.2.2.2.2 false a0_0 l0_1 l0_2 bt158.1 bt158.2.1 bt158.2.2.1))) = some r := H
        have A18 := aS A180
        clear A180
        replace H := Option.bind_eq_some_iff.mp H
        obtain ⟨⟨t158, t159, t162, t165, t168⟩, A190, H⟩ := H
        replace H : (if t156 = 0 then ((network_Check.f kj2 t149 t150 t153).bind fun t170 => (if t170 = 0 then (if t149 = a0_0 then (if (t153.length : Int) < (l0_2.length : Int) then (lookoutlaw50_NetworkValid.j1 kj2 t165 t168 true a0_0 l0_1 l0_2 t158 t159 t162) else (if 0 ≤ (l0_2.length : Int) then (if (l0_2.length : Int) ≤ (t153.length : Int) then ((api_Flight_28.f kj2 (t153.take ((l0_2.length : Int) : Int).toNat) l0_2).bind fun t175 => (lookoutlaw50_NetworkValid.j1 kj2 t165 t168 (!t175) a0_0 l0_1 l0_2 t158 t159 t162)) else (none)) else (none))) else (lookoutlaw50_NetworkValid.j1 kj2 t165 t168 true a0_0 l0_1 l0_2 t158 t159 t162)) else (lookoutlaw50_NetworkValid.j1 kj2 t165 t168 true a0_0 l0_1 l0_2 t158 t159 t162))) else (lookoutlaw50_NetworkValid.j1 kj2 t165 t168 false a0_0 l0_1 l0_2 t158 t159 t162)) = some r := H
        have A19 := aS A190
        clear A190
        have HC20 := aS H
        clear H
        have hnb21 := NB145_146.out
        have hnc21 := NB146_145.out
        have hcz22_0 : wc.cell? ⟨gb145, 0, none⟩ = some (.int .i64 a0_0) := (blk_cell BK145.out 0).trans rfl
        have hcz22_1 : wc.cell? ⟨gb145, 1, none⟩ = some (.slice A0_1 l0_1.length c0_1) := (blk_cell BK145.out 1).trans rfl
        have hcz22_2 : wc.cell? ⟨gb145, 2, none⟩ = some (.slice A0_2 l0_2.length c0_2) := (blk_cell BK145.out 2).trans rfl
        have hfz22_0 := blk_frozen BK145.out 0
        have hfz22_1 := blk_frozen BK145.out 1
        have hfz22_2 := blk_frozen BK145.out 2
        have hcz23_0 : wc.cell? ⟨gb146, 0, none⟩ = some (.int .i64 a1_0) := (blk_cell BK146.out 0).trans rfl
        have hcz23_1 : wc.cell? ⟨gb146, 1, none⟩ = some (.int .i64 a1_1) := (blk_cell BK146.out 1).trans rfl
        have hcz23_2 : wc.cell? ⟨gb146, 2, none⟩ = some (.string a1_2) := (blk_cell BK146.out 2).trans rfl
        have hfz23_0 := blk_frozen BK146.out 0
        have hfz23_1 := blk_frozen BK146.out 1
        have hfz23_2 := blk_frozen BK146.out 2
        go_upto_region 5 with (first | ((with_reducible refine gate_callee (f := 12) rfl ?_);refine goesL_ (some 23) rfl rfl Try.func12 (by kernel_rfl) rfl #[.agg #[.int .i64 a0_0, .slice A0_1 l0_1.length c0_1, .slice A0_2 l0_2.length c0_2], .agg #[.int .i64 a1_0, .int .i64 a1_1, .string a1_2]] rfl (by (try simp only [List.map_toArray, List.map_cons, List.map_nil]);first | done | rfl | (simp only [List.length_drop, List.length_take];rfl)) ?_;(with_reducible refine (network_Send.calls kj2 a0_0 (fun k_ => k_ < w.heap.size) _ _ l0_1 _ _ l0_2 a1_0 a1_1 a1_2 t149 t150 t153 t156 _ ?side1 ?side2 ?side3 A18.out).mono ?_);(case side1 => exact Kd.V_mk HC0_1.out (Kd.F_below (Kd.C_F (Kd.heap_int .i64) HR0_1.out) (by repeat (first | (with_reducible first | exact HB.out | apply bA|apply bN|apply bD | refine below_set ?_ GE145.out | refine below_set ?_ GE146.out) | exact HB.out))));(case side2 => repeat (first | exact (Kd.C_below HR0_2.out HB.out) | (with_reducible refine Kd.C_alloc ?_ _) | (with_reducible refine Kd.C_drewN ?_ _) | (with_reducible refine Kd.C_drew ?_)));(case side3 => exact HC0_2.out);rintro e w24 ⟨v151, v154, rfl, ho0, ho1, hb⟩;refine ⟨_, rfl, ?_⟩;have n0_ := aS (Kd.V_lower (Kd.V_mono (ok' := fun k_ => some k_ ≠ (v154 : Value).ownBlock ∧ k_ ≠ gb145 ∧ k_ ≠ gb146) ho0 (fun k_ hk_ => ⟨hk_.2, Or.elim hk_.1 (fun hs_ => fun e_ => Nat.not_le.2 hs_ (by rw [e_];exact GW145.out)) (fun hn_ => (Kd.freshB (g := gb145) (o := .cells #[.int .i64 a0_0, .slice A0_1 l0_1.length c0_1, .slice A0_2 l0_2.length c0_2] 25 (0, 0)) (by (with_reducible repeat (first | refine blk_drewN ?_ _ | refine blk_drew ?_ | refine blk_alloc ?_ _));exact BK145.out) k_ hn_)), Or.elim hk_.1 (fun hs_ => fun e_ => Nat.not_le.2 hs_ (by rw [e_];exact GW146.out)) (fun hn_ => (Kd.freshB (g := gb146) (o := .cells #[.int .i64 a1_0, .int .i64 a1_1, .string a1_2] 27 (0, 0)) (by (with_reducible repeat (first | refine blk_drewN ?_ _ | refine blk_drew ?_ | refine blk_alloc ?_ _));exact BK146.out) k_ hn_))⟩)) (below_size (by repeat (first | (with_reducible first | exact HB.out | apply bA|apply bN|apply bD | refine below_set ?_ GE145.out | refine below_set ?_ GE146.out) | exact HB.out))));have n1_ := aS (Kd.R_lower (Kd.R_mono (ok' := fun k_ => True) ho1 (fun _ hk_ => trivial)) (below_size (by repeat (first | (with_reducible first | exact HB.out | apply bA|apply bN|apply bD | refine below_set ?_ GE145.out | refine below_set ?_ GE146.out) | exact HB.out))));have n2_ := aS (blk_below (g := gb145) (o := .cells #[.int .i64 a0_0, .slice A0_1 l0_1.length c0_1, .slice A0_2 l0_2.length c0_2] 25 (0, 0)) (by (with_reducible repeat (first | refine blk_drewN ?_ _ | refine blk_drew ?_ | refine blk_alloc ?_ _));exact BK145.out) hb);have n3_ := aS (blk_below (g := gb146) (o := .cells #[.int .i64 a1_0, .int .i64 a1_1, .string a1_2] 27 (0, 0)) (by (with_reducible repeat (first | refine blk_drewN ?_ _ | refine blk_drew ?_ | refine blk_alloc ?_ _));exact BK146.out) hb);have n4_ := aS (below_step (by repeat (first | (with_reducible first | exact HB.out | apply bA|apply bN|apply bD | refine below_set ?_ GE145.out | refine below_set ?_ GE146.out) | exact HB.out)) hb);clear BK145 BK146 HB;have HO152 := n0_;have HO155 := n1_;have BK145 := n2_;have BK146 := n3_;have HB := n4_;clear n0_ n1_ n2_ n3_ n4_;(try clear hb);(try clear hb2);(try clear hk);(try clear hi);(try clear ho0);(try clear ho1)) | ((with_reducible refine gate_dst (N := 5) rfl ?_);(try (refine gate_guard (by rfl) ?_;dsimp only));refine box_event ?hg (N := 5) ?hd (cs := #[.int .i64 0, .slice none 0 0, .slice none 0 0]) (t := 25) ?hr ?_;(case hd => rfl);(case hg => rfl);(case hr => first | (go_simp;done) | (go_simp;rfl));intro gb157 hg w25 hbox hb;have n0_ := aS (Kd.V_below (Kd.V_elderB (by (with_reducible repeat (first | apply vA|apply vN|apply vD));exact HO152.out) gb157 (Nat.le_of_eq hg.symm)) hb);have n1_ := aS (Kd.R_below (by (with_reducible repeat (first | apply rA|apply rN|apply rD));exact HO155.out) hb);have n2_ := aS (blk_below (g := gb145) (o := .cells #[.int .i64 a0_0, .slice A0_1 l0_1.length c0_1, .slice A0_2 l0_2.length c0_2] 25 (0, 0)) (by (with_reducible repeat (first | refine blk_drewN ?_ _ | refine blk_drew ?_ | refine blk_alloc ?_ _));exact BK145.out) hb);have n3_ := aS (blk_below (g := gb146) (o := .cells #[.int .i64 a1_0, .int .i64 a1_1, .string a1_2] 27 (0, 0)) (by (with_reducible repeat (first | refine blk_drewN ?_ _ | refine blk_drew ?_ | refine blk_alloc ?_ _));exact BK146.out) hb);have n4_ := aS (below_step (by repeat (first | (with_reducible first | exact HB.out | apply bA|apply bN|apply bD | refine below_set ?_ GE145.out | refine below_set ?_ GE146.out) | exact HB.out)) hb);have n5_ := aS (hbox);have n6_ := aS ((by rw [hg];exact (below_size (by repeat (first | (with_reducible first | exact HB.out | apply bA|apply bN|apply bD | refine below_set ?_ GE145.out | refine below_set ?_ GE146.out) | exact HB.out))) : w.heap.size ≤ gb157));have n7_ := aS ((by rw [hg];exact (below_size (by repeat (first | (with_reducible first | exact HB.out | apply bA|apply bN|apply bD | refine below_set ?_ GE145.out | refine below_set ?_ GE146.out) | exact HB.out))) : w.heap.size ≤ gb157));have n8_ := aS ((by rw [hg];exact Nat.ne_of_lt (blk_lt (g := gb145) (o := .cells #[.int .i64 a0_0, .slice A0_1 l0_1.length c0_1, .slice A0_2 l0_2.length c0_2] 25 (0, 0)) (by (with_reducible repeat (first | refine blk_drewN ?_ _ | refine blk_drew ?_ | refine blk_alloc ?_ _));exact BK145.out)) : gb145 ≠ gb157));have n9_ := aS ((by rw [hg];exact Nat.ne_of_gt (blk_lt (g := gb145) (o := .cells #[.int .i64 a0_0, .slice A0_1 l0_1.length c0_1, .slice A0_2 l0_2.length c0_2] 25 (0, 0)) (by (with_reducible repeat (first | refine blk_drewN ?_ _ | refine blk_drew ?_ | refine blk_alloc ?_ _));exact BK145.out)) : gb157 ≠ gb145));have n10_ := aS ((by rw [hg];exact Nat.ne_of_lt (blk_lt (g := gb146) (o := .cells #[.int .i64 a1_0, .int .i64 a1_1, .string a1_2] 27 (0, 0)) (by (with_reducible repeat (first | refine blk_drewN ?_ _ | refine blk_drew ?_ | refine blk_alloc ?_ _));exact BK146.out)) : gb146 ≠ gb157));have n11_ := aS ((by rw [hg];exact Nat.ne_of_gt (blk_lt (g := gb146) (o := .cells #[.int .i64 a1_0, .int .i64 a1_1, .string a1_2] 27 (0, 0)) (by (with_reducible repeat (first | refine blk_drewN ?_ _ | refine blk_drew ?_ | refine blk_alloc ?_ _));exact BK146.out)) : gb157 ≠ gb146));clear HO152 HO155 BK145 BK146 HB;have HO152 := n0_;have HO155 := n1_;have BK145 := n2_;have BK146 := n3_;have HB := n4_;have BK157 := n5_;have GW157 := n6_;have GE157 := n7_;have NB145_157 := n8_;have NB157_145 := n9_;have NB146_157 := n10_;have NB157_146 := n11_;clear n0_ n1_ n2_ n3_ n4_ n5_ n6_ n7_ n8_ n9_ n10_ n11_;clear hb hbox hg;have hnb26 := NB157_145.out;have hnc26 := NB145_157.out;have hnb27 := NB157_146.out;have hnc27 := NB146_157.out;have hcz28_0 : w25.cell? ⟨gb157, 0, none⟩ = some (.int .i64 0) := (blk_cell BK157.out 0).trans rfl;have hcz28_1 : w25.cell? ⟨gb157, 1, none⟩ = some (.slice none 0 0) := (blk_cell BK157.out 1).trans rfl;have hcz28_2 : w25.cell? ⟨gb157, 2, none⟩ = some (.slice none 0 0) := (blk_cell BK157.out 2).trans rfl;have hfz28_0 := blk_frozen BK157.out 0;have hfz28_1 := blk_frozen BK157.out 1;have hfz28_2 := blk_frozen BK157.out 2;obtain ⟨Ao29, co29, eo29⟩ := Kd.V_slice HO152.out;subst eo29;obtain ⟨Ao30, co30, eo30⟩ := Kd.R_slice HO155.out;subst eo30) | ((with_reducible refine gate_store (t := 25) (p := 5) rfl ?_);refine store_event (t := 25) (p := 5) (v := ?vo_w31) (w1 := (((w25.setCell ⟨gb157, 0, none⟩ (.int .i64 t149)).setCell ⟨gb157, 1, none⟩ (.slice Ao29 t150.length co29)).setCell ⟨gb157, 2, none⟩ (.slice Ao30 t153.length co30))) ?hg ?ho ?hn ?hr ?_;(case ho => rfl);(case hg => rfl);(case hn => rfl);(case hr => first | (go_simp;done) | (go_simp;rfl));intro w31 hw;have n0_ : Aside0 (Kd.V (Kd.int .i64) 3 w31 w.heap.size (fun k_ => some k_ ≠ (.slice Ao30 t153.length co30 : Value).ownBlock ∧ k_ ≠ gb145 ∧ k_ ≠ gb146 ∧ k_ ≠ gb157) (.slice Ao29 t150.length co29) t150) := ⟨(by rw [hw];exact (by (with_reducible repeat (first | apply vA|apply vN|apply vD));exact Kd.V_mono (Kd.V_far (p := ⟨gb157, 2, none⟩) (Kd.V_far (p := ⟨gb157, 1, none⟩) (Kd.V_far (p := ⟨gb157, 0, none⟩) (Kd.V_mono HO152.out (fun k_ hk => (⟨hk, hk.2⟩ : _ ∧ k_ ≠ gb157))) (fun _ hk => hk.2) (.int .i64 t149)) (fun _ hk => hk.2) (.slice Ao29 t150.length co29)) (fun _ hk => hk.2) (.slice Ao30 t153.length co30)) (fun _ hk => ⟨hk.1.1.1, ⟨hk.1.1.2.1, ⟨hk.1.1.2.2, hk.1.2⟩⟩⟩)))⟩;have n1_ : Aside0 (Kd.R k44 44 w31 w.heap.size (fun _ => True) (.slice Ao30 t153.length co30) t153) := ⟨(by rw [hw];exact (by (with_reducible repeat (first | apply rA|apply rN|apply rD));exact Kd.R_mono (Kd.R_far (p := ⟨gb157, 2, none⟩) (Kd.R_far (p := ⟨gb157, 1, none⟩) (Kd.R_far (p := ⟨gb157, 0, none⟩) (Kd.R_types HO155.out BK157.out (by decide)) (fun _ hk => hk.2) (.int .i64 t149)) (fun _ hk => hk.2) (.slice Ao29 t150.length co29)) (fun _ hk => hk.2) (.slice Ao30 t153.length co30)) (fun _ hk => trivial)))⟩;have n2_ : Aside0 (w31.heap[gb145]? = some (.cells #[.int .i64 a0_0, .slice A0_1 l0_1.length c0_1, .slice A0_2 l0_2.length c0_2] 25 (0, 0))) := ⟨(by rw [hw];exact (by (with_reducible repeat (first | refine blk_drewN ?_ _ | refine blk_drew ?_ | refine blk_alloc ?_ _));refine blk_far ?_ NB145_157.out _;(with_reducible repeat (first | refine blk_drewN ?_ _ | refine blk_drew ?_ | refine blk_alloc ?_ _));refine blk_far ?_ NB145_157.out _;(with_reducible repeat (first | refine blk_drewN ?_ _ | refine blk_drew ?_ | refine blk_alloc ?_ _));refine blk_far ?_ NB145_157.out _;(with_reducible repeat (first | refine blk_drewN ?_ _ | refine blk_drew ?_ | refine blk_alloc ?_ _));exact BK145.out))⟩;have n3_ : Aside0 (w31.heap[gb146]? = some (.cells #[.int .i64 a1_0, .int .i64 a1_1, .string a1_2] 27 (0, 0))) := ⟨(by rw [hw];exact (by (with_reducible repeat (first | refine blk_drewN ?_ _ | refine blk_drew ?_ | refine blk_alloc ?_ _));refine blk_far ?_ NB146_157.out _;(with_reducible repeat (first | refine blk_drewN ?_ _ | refine blk_drew ?_ | refine blk_alloc ?_ _));refine blk_far ?_ NB146_157.out _;(with_reducible repeat (first | refine blk_drewN ?_ _ | refine blk_drew ?_ | refine blk_alloc ?_ _));refine blk_far ?_ NB146_157.out _;(with_reducible repeat (first | refine blk_drewN ?_ _ | refine blk_drew ?_ | refine blk_alloc ?_ _));exact BK146.out))⟩;have n4_ : Aside0 (w31.heap[gb157]? = some (.cells #[.int .i64 t149, .slice Ao29 t150.length co29, .slice Ao30 t153.length co30] 25 (0, 0))) := ⟨(by rw [hw];exact (by (with_reducible repeat (first | refine blk_drewN ?_ _ | refine blk_drew ?_ | refine blk_alloc ?_ _));refine blk_put (cs := #[.int .i64 t149, .slice Ao29 t150.length co29, .slice none 0 0]) ?_ 2 _ rfl;(with_reducible repeat (first | refine blk_drewN ?_ _ | refine blk_drew ?_ | refine blk_alloc ?_ _));refine blk_put (cs := #[.int .i64 t149, .slice none 0 0, .slice none 0 0]) ?_ 1 _ rfl;(with_reducible repeat (first | refine blk_drewN ?_ _ | refine blk_drew ?_ | refine blk_alloc ?_ _));refine blk_put (cs := #[.int .i64 0, .slice none 0 0, .slice none 0 0]) ?_ 0 _ rfl;(with_reducible repeat (first | refine blk_drewN ?_ _ | refine blk_drew ?_ | refine blk_alloc ?_ _));exact BK157.out))⟩;have n5_ : Aside0 (Below w.heap.size w w31) := ⟨(by rw [hw];exact (by repeat (first | (with_reducible first | exact HB.out | apply bA|apply bN|apply bD | refine below_set ?_ GE145.out | refine below_set ?_ GE146.out | refine below_set ?_ GE157.out) | exact HB.out)))⟩;clear hw HO152 HO155 BK145 BK146 BK157 HB;have HO152 := n0_;have HO155 := n1_;have BK145 := n2_;have BK146 := n3_;have BK157 := n4_;have HB := n5_;clear n0_ n1_ n2_ n3_ n4_ n5_;have hcz32_0 : w31.cell? ⟨gb145, 0, none⟩ = some (.int .i64 a0_0) := (blk_cell BK145.out 0).trans rfl;have hcz32_1 : w31.cell? ⟨gb145, 1, none⟩ = some (.slice A0_1 l0_1.length c0_1) := (blk_cell BK145.out 1).trans rfl;have hcz32_2 : w31.cell? ⟨gb145, 2, none⟩ = some (.slice A0_2 l0_2.length c0_2) := (blk_cell BK145.out 2).trans rfl;have hfz32_0 := blk_frozen BK145.out 0;have hfz32_1 := blk_frozen BK145.out 1;have hfz32_2 := blk_frozen BK145.out 2) | ((with_reducible refine gate_callee (f := 22) rfl ?_);refine goesL_ (some 28) rfl rfl Try.func22 (by kernel_rfl) rfl #[.agg #[.int .i64 a0_0, .slice A0_1 l0_1.length c0_1, .slice A0_2 l0_2.length c0_2]] rfl (by (try simp only [List.map_toArray, List.map_cons, List.map_nil]);first | done | rfl | (simp only [List.length_drop, List.length_take];rfl)) ?_;(with_reducible refine (network_Step.calls kj2 a0_0 (fun k_ => k_ < w.heap.size) _ _ l0_1 _ _ l0_2 t158 t159 t162 t165 t168 _ ?side1 ?side2 ?side3 A19.out).mono ?_);(case side1 => exact Kd.V_mk HC0_1.out (Kd.F_below (Kd.C_F (Kd.heap_int .i64) HR0_1.out) (by repeat (first | (with_reducible first | exact HB.out | apply bA|apply bN|apply bD | refine below_set ?_ GE145.out | refine below_set ?_ GE146.out | refine below_set ?_ GE157.out) | exact HB.out))));(case side2 => repeat (first | exact (Kd.C_below HR0_2.out HB.out) | (with_reducible refine Kd.C_alloc ?_ _) | (with_reducible refine Kd.C_drewN ?_ _) | (with_reducible refine Kd.C_drew ?_)));(case side3 => exact HC0_2.out);rintro e w33 ⟨v160, v163, v166, rfl, ho0, ho1, ho2, hb⟩;refine ⟨_, rfl, ?_⟩;have n0_ := aS (Kd.V_mono (Kd.V_told (Kd.V_told (Kd.V_old (by (with_reducible repeat (first | apply vA|apply vN|apply vD));exact HO152.out) hb) (Kd.R_base ho1)) (Kd.R_base ho2)) (fun _ h_ => h_.1));have n1_ := aS (Kd.R_elder' (by (with_reducible repeat (first | apply rA|apply rN|apply rD));exact HO155.out) (Kd.R_base ho1) hb);have n2_ := aS (Kd.V_lower (Kd.V_mono (ok' := fun k_ => some k_ ≠ (v163 : Value).ownBlock ∧ some k_ ≠ (v166 : Value).ownBlock ∧ some k_ ≠ (.slice Ao30 t153.length co30 : Value).ownBlock ∧ k_ ≠ gb145 ∧ k_ ≠ gb146 ∧ k_ ≠ gb157) ho0 (fun k_ hk_ => ⟨hk_.2.1, hk_.2.2, Or.elim hk_.1 (fun hs_ => fun e_ => Nat.not_le.2 hs_ (Kd.R_base HO155.out k_ e_.symm)) (fun hn_ => (Kd.fresh' (Kd.R_lt (by (with_reducible repeat (first | apply rA|apply rN|apply rD));exact HO155.out)) k_ hn_)), Or.elim hk_.1 (fun hs_ => fun e_ => Nat.not_le.2 hs_ (by rw [e_];exact GW145.out)) (fun hn_ => (Kd.freshB (g := gb145) (o := .cells #[.int .i64 a0_0, .slice A0_1 l0_1.length c0_1, .slice A0_2 l0_2.length c0_2] 25 (0, 0)) (by (with_reducible repeat (first | refine blk_drewN ?_ _ | refine blk_drew ?_ | refine blk_alloc ?_ _));exact BK145.out) k_ hn_)), Or.elim hk_.1 (fun hs_ => fun e_ => Nat.not_le.2 hs_ (by rw [e_];exact GW146.out)) (fun hn_ => (Kd.freshB (g := gb146) (o := .cells #[.int .i64 a1_0, .int .i64 a1_1, .string a1_2] 27 (0, 0)) (by (with_reducible repeat (first | refine blk_drewN ?_ _ | refine blk_drew ?_ | refine blk_alloc ?_ _));exact BK146.out) k_ hn_)), Or.elim hk_.1 (fun hs_ => fun e_ => Nat.not_le.2 hs_ (by rw [e_];exact GW157.out)) (fun hn_ => (Kd.freshB (g := gb157) (o := .cells #[.int .i64 t149, .slice Ao29 t150.length co29, .slice Ao30 t153.length co30] 25 (0, 0)) (by (with_reducible repeat (first | refine blk_drewN ?_ _ | refine blk_drew ?_ | refine blk_alloc ?_ _));exact BK157.out) k_ hn_))⟩)) (below_size (by repeat (first | (with_reducible first | exact HB.out | apply bA|apply bN|apply bD | refine below_set ?_ GE145.out | refine below_set ?_ GE146.out | refine below_set ?_ GE157.out) | exact HB.out))));have n3_ := aS (Kd.R_lower (Kd.R_new' (Kd.R_mono (ok' := fun k_ => True) ho1 (fun _ hk_ => trivial)) (Kd.R_lt (by (with_reducible repeat (first | apply rA|apply rN|apply rD));exact HO155.out))) (below_size (by repeat (first | (with_reducible first | exact HB.out | apply bA|apply bN|apply bD | refine below_set ?_ GE145.out | refine below_set ?_ GE146.out | refine below_set ?_ GE157.out) | exact HB.out))));have n4_ := aS (Kd.R_lower (Kd.R_newB (Kd.R_mono (ok' := fun k_ => True) ho2 (fun _ hk_ => trivial)) (g := gb146) (o := .cells #[.int .i64 a1_0, .int .i64 a1_1, .string a1_2] 27 (0, 0)) (by (with_reducible repeat (first | refine blk_drewN ?_ _ | refine blk_drew ?_ | refine blk_alloc ?_ _));exact BK146.out)) (below_size (by repeat (first | (with_reducible first | exact HB.out | apply bA|apply bN|apply bD | refine below_set ?_ GE145.out | refine below_set ?_ GE146.out | refine below_set ?_ GE157.out) | exact HB.out))));have n5_ := aS (blk_below (g := gb145) (o := .cells #[.int .i64 a0_0, .slice A0_1 l0_1.length c0_1, .slice A0_2 l0_2.length c0_2] 25 (0, 0)) (by (with_reducible repeat (first | refine blk_drewN ?_ _ | refine blk_drew ?_ | refine blk_alloc ?_ _));exact BK145.out) hb);have n6_ := aS (blk_below (g := gb146) (o := .cells #[.int .i64 a1_0, .int .i64 a1_1, .string a1_2] 27 (0, 0)) (by (with_reducible repeat (first | refine blk_drewN ?_ _ | refine blk_drew ?_ | refine blk_alloc ?_ _));exact BK146.out) hb);have n7_ := aS (blk_below (g := gb157) (o := .cells #[.int .i64 t149, .slice Ao29 t150.length co29, .slice Ao30 t153.length co30] 25 (0, 0)) (by (with_reducible repeat (first | refine blk_drewN ?_ _ | refine blk_drew ?_ | refine blk_alloc ?_ _));exact BK157.out) hb);have n8_ := aS (below_step (by repeat (first | (with_reducible first | exact HB.out | apply bA|apply bN|apply bD | refine below_set ?_ GE145.out | refine below_set ?_ GE146.out | refine below_set ?_ GE157.out) | exact HB.out)) hb);clear HO152 HO155 BK145 BK146 BK157 HB;have HO152 := n0_;have HO155 := n1_;have HO161 := n2_;have HO164 := n3_;have HO167 := n4_;have BK145 := n5_;have BK146 := n6_;have BK157 := n7_;have HB := n8_;clear n0_ n1_ n2_ n3_ n4_ n5_ n6_ n7_ n8_;(try clear hb);(try clear hb2);(try clear hk);(try clear hi);(try clear ho0);(try clear ho1);(try clear ho2)) | ((with_reducible refine gate_dst (N := 7) rfl ?_);(try (refine gate_guard (by rfl) ?_;dsimp only));refine box_event ?hg (N := 7) ?hd (cs := #[.int .i64 0, .slice none 0 0, .slice none 0 0]) (t := 25) ?hr ?_;(case hd => rfl);(case hg => rfl);(case hr => first | (go_simp;done) | (go_simp;rfl));intro gb169 hg w34 hbox hb;have n0_ := aS (Kd.V_below (Kd.V_elderB (by (with_reducible repeat (first | apply vA|apply vN|apply vD));exact HO152.out) gb169 (Nat.le_of_eq hg.symm)) hb);have n1_ := aS (Kd.R_below (by (with_reducible repeat (first | apply rA|apply rN|apply rD));exact HO155.out) hb);have n2_ := aS (Kd.V_below (Kd.V_elderB (by (with_reducible repeat (first | apply vA|apply vN|apply vD));exact HO161.out) gb169 (Nat.le_of_eq hg.symm)) hb);have n3_ := aS (Kd.R_below (by (with_reducible repeat (first | apply rA|apply rN|apply rD));exact HO164.out) hb);have n4_ := aS (Kd.R_below (by (with_reducible repeat (first | apply rA|apply rN|apply rD));exact HO167.out) hb);have n5_ := aS (blk_below (g := gb145) (o := .cells #[.int .i64 a0_0, .slice A0_1 l0_1.length c0_1, .slice A0_2 l0_2.length c0_2] 25 (0, 0)) (by (with_reducible repeat (first | refine blk_drewN ?_ _ | refine blk_drew ?_ | refine blk_alloc ?_ _));exact BK145.out) hb);have n6_ := aS (blk_below (g := gb146) (o := .cells #[.int .i64 a1_0, .int .i64 a1_1, .string a1_2] 27 (0, 0)) (by (with_reducible repeat (first | refine blk_drewN ?_ _ | refine blk_drew ?_ | refine blk_alloc ?_ _));exact BK146.out) hb);have n7_ := aS (blk_below (g := gb157) (o := .cells #[.int .i64 t149, .slice Ao29 t150.length co29, .slice Ao30 t153.length co30] 25 (0, 0)) (by (with_reducible repeat (first | refine blk_drewN ?_ _ | refine blk_drew ?_ | refine blk_alloc ?_ _));exact BK157.out) hb);have n8_ := aS (below_step (by repeat (first | (with_reducible first | exact HB.out | apply bA|apply bN|apply bD | refine below_set ?_ GE145.out | refine below_set ?_ GE146.out | refine below_set ?_ GE157.out) | exact HB.out)) hb);have n9_ := aS (hbox);have n10_ := aS ((by rw [hg];exact (below_size (by repeat (first | (with_reducible first | exact HB.out | apply bA|apply bN|apply bD | refine below_set ?_ GE145.out | refine below_set ?_ GE146.out | refine below_set ?_ GE157.out) | exact HB.out))) : w.heap.size ≤ gb169));have n11_ := aS ((by rw [hg];exact (below_size (by repeat (first | (with_reducible first | exact HB.out | apply bA|apply bN|apply bD | refine below_set ?_ GE145.out | refine below_set ?_ GE146.out | refine below_set ?_ GE157.out) | exact HB.out))) : w.heap.size ≤ gb169));have n12_ := aS ((by rw [hg];exact Nat.ne_of_lt (blk_lt (g := gb145) (o := .cells #[.int .i64 a0_0, .slice A0_1 l0_1.length c0_1, .slice A0_2 l0_2.length c0_2] 25 (0, 0)) (by (with_reducible repeat (first | refine blk_drewN ?_ _ | refine blk_drew ?_ | refine blk_alloc ?_ _));exact BK145.out)) : gb145 ≠ gb169));have n13_ := aS ((by rw [hg];exact Nat.ne_of_gt (blk_lt (g := gb145) (o := .cells #[.int .i64 a0_0, .slice A0_1 l0_1.length c0_1, .slice A0_2 l0_2.length c0_2] 25 (0, 0)) (by (with_reducible repeat (first | refine blk_drewN ?_ _ | refine blk_drew ?_ | refine blk_alloc ?_ _));exact BK145.out)) : gb169 ≠ gb145));have n14_ := aS ((by rw [hg];exact Nat.ne_of_lt (blk_lt (g := gb146) (o := .cells #[.int .i64 a1_0, .int .i64 a1_1, .string a1_2] 27 (0, 0)) (by (with_reducible repeat (first | refine blk_drewN ?_ _ | refine blk_drew ?_ | refine blk_alloc ?_ _));exact BK146.out)) : gb146 ≠ gb169));have n15_ := aS ((by rw [hg];exact Nat.ne_of_gt (blk_lt (g := gb146) (o := .cells #[.int .i64 a1_0, .int .i64 a1_1, .string a1_2] 27 (0, 0)) (by (with_reducible repeat (first | refine blk_drewN ?_ _ | refine blk_drew ?_ | refine blk_alloc ?_ _));exact BK146.out)) : gb169 ≠ gb146));have n16_ := aS ((by rw [hg];exact Nat.ne_of_lt (blk_lt (g := gb157) (o := .cells #[.int .i64 t149, .slice Ao29 t150.length co29, .slice Ao30 t153.length co30] 25 (0, 0)) (by (with_reducible repeat (first | refine blk_drewN ?_ _ | refine blk_drew ?_ | refine blk_alloc ?_ _));exact BK157.out)) : gb157 ≠ gb169));have n17_ := aS ((by rw [hg];exact Nat.ne_of_gt (blk_lt (g := gb157) (o := .cells #[.int .i64 t149, .slice Ao29 t150.length co29, .slice Ao30 t153.length co30] 25 (0, 0)) (by (with_reducible repeat (first | refine blk_drewN ?_ _ | refine blk_drew ?_ | refine blk_alloc ?_ _));exact BK157.out)) : gb169 ≠ gb157));clear HO152 HO155 HO161 HO164 HO167 BK145 BK146 BK157 HB;have HO152 := n0_;have HO155 := n1_;have HO161 := n2_;have HO164 := n3_;have HO167 := n4_;have BK145 := n5_;have BK146 := n6_;have BK157 := n7_;have HB := n8_;have BK169 := n9_;have GW169 := n10_;have GE169 := n11_;have NB145_169 := n12_;have NB169_145 := n13_;have NB146_169 := n14_;have NB169_146 := n15_;have NB157_169 := n16_;have NB169_157 := n17_;clear n0_ n1_ n2_ n3_ n4_ n5_ n6_ n7_ n8_ n9_ n10_ n11_ n12_ n13_ n14_ n15_ n16_ n17_;clear hb hbox hg;have hnb35 := NB169_145.out;have hnc35 := NB145_169.out;have hnb36 := NB169_146.out;have hnc36 := NB146_169.out;have hnb37 := NB169_157.out;have hnc37 := NB157_169.out;have hcz38_0 : w34.cell? ⟨gb169, 0, none⟩ = some (.int .i64 0) := (blk_cell BK169.out 0).trans rfl;have hcz38_1 : w34.cell? ⟨gb169, 1, none⟩ = some (.slice none 0 0) := (blk_cell BK169.out 1).trans rfl;have hcz38_2 : w34.cell? ⟨gb169, 2, none⟩ = some (.slice none 0 0) := (blk_cell BK169.out 2).trans rfl;have hfz38_0 := blk_frozen BK169.out 0;have hfz38_1 := blk_frozen BK169.out 1;have hfz38_2 := blk_frozen BK169.out 2;obtain ⟨Ao39, co39, eo39⟩ := Kd.V_slice HO161.out;subst eo39;obtain ⟨Ao40, co40, eo40⟩ := Kd.R_slice HO164.out;subst eo40))
        (try simp only [Act.put, List.setIfInBounds_toArray, List.set_cons_zero, List.set_cons_succ])
        go_cut [66] (fun v66 wc => ∃ (kq : Nat) (x66_19 : Bool), v66 = .bool x66_19 ∧ Aside0 (lookoutlaw50_NetworkValid.j1 kq t165 t168 x66_19 a0_0 l0_1 l0_2 t158 t159 t162 = some r) ∧ Aside0 (kq ≤ kj2) ∧ Aside0 (Kd.R k27 27 wc w.heap.size (fun k_ => k_ ≠ gb146) v166 t165) ∧ Aside0 (Kd.V (Kd.int .i64) 3 wc w.heap.size (fun k_ => some k_ ≠ (v166 : Value).ownBlock ∧ some k_ ≠ ((.slice Ao30 t153.length co30) : Value).ownBlock ∧ some k_ ≠ ((.slice Ao40 t162.length co40) : Value).ownBlock ∧ k_ ≠ gb145 ∧ k_ ≠ gb146 ∧ k_ ≠ gb157 ∧ k_ ≠ gb169) (.slice Ao29 t150.length co29) t150) ∧ Aside0 (Kd.R k44 44 wc w.heap.size (fun k_ => some k_ ≠ ((.slice Ao40 t162.length co40) : Value).ownBlock) (.slice Ao30 t153.length co30) t153) ∧ Aside0 (Kd.V (Kd.int .i64) 3 wc w.heap.size (fun k_ => some k_ ≠ (v166 : Value).ownBlock ∧ some k_ ≠ ((.slice Ao30 t153.length co30) : Value).ownBlock ∧ some k_ ≠ ((.slice Ao40 t162.length co40) : Value).ownBlock ∧ k_ ≠ gb145 ∧ k_ ≠ gb146 ∧ k_ ≠ gb157 ∧ k_ ≠ gb169) (.slice Ao39 t159.length co39) t159) ∧ Aside0 (Kd.R k44 44 wc w.heap.size (fun k_ => some k_ ≠ ((.slice Ao30 t153.length co30) : Value).ownBlock) (.slice Ao40 t162.length co40) t162) ∧ Aside0 (wc.heap[gb145]? = some (.cells #[.int .i64 a0_0, (.slice A0_1 l0_1.length c0_1), (.slice A0_2 l0_2.length c0_2)] 25 (0, 0))) ∧ Aside0 (wc.heap[gb146]? = some (.cells #[.int .i64 a1_0, .int .i64 a1_1, .string a1_2] 27 (0, 0))) ∧ Aside0 (wc.heap[gb157]? = some (.cells #[.int .i64 t149, (.slice Ao29 t150.length co29), (.slice Ao30 t153.length co30)] 25 (0, 0))) ∧ Aside0 (wc.heap[gb169]? = some (.cells #[.int .i64 t158, (.slice Ao39 t159.length co39), (.slice Ao40 t162.length co40)] 25 (0, 0))) ∧ Aside0 (Below w.heap.size w wc))
        case first =>
          have H := HC20.out
          clear HC20
          by_cases c41 : t156 = 0
          · rw [if_pos c41] at H
            have c41b0 : (t156 == 0) = true := beq_iff_eq.mpr c41
            have c41b1 : (t156 != 0) = false := bne_eq_false_iff_eq.mpr c41
            clear c41
            (first | rw [c41b0] | (simp only [i64_w, i32_w]; rw [c41b0]) | rw [c41b1] | (simp only [i64_w, i32_w]; rw [c41b1]) | skip)
            replace H := Option.bind_eq_some_iff.mp H
            obtain ⟨t170, A420, H⟩ := H
            replace H : (if t170 = 0 then (if t149 = a0_0 then (if (t153.length : Int) < (l0_2.length : Int) then (lookoutlaw50_NetworkValid.j1 kj2 t165 t168 true a0_0 l0_1 l0_2 t158 t159 t162) else (if 0 ≤ (l0_2.length : Int) then (if (l0_2.length : Int) ≤ (t153.length : Int) then ((api_Flight_28.f kj2 (t153.take ((l0_2.length : Int) : Int).toNat) l0_2).bind fun t175 => (lookoutlaw50_NetworkValid.j1 kj2 t165 t168 (!t175) a0_0 l0_1 l0_2 t158 t159 t162)) else (none)) else (none))) else (lookoutlaw50_NetworkValid.j1 kj2 t165 t168 true a0_0 l0_1 l0_2 t158 t159 t162)) else (lookoutlaw50_NetworkValid.j1 kj2 t165 t168 true a0_0 l0_1 l0_2 t158 t159 t162)) = some r := H
            have A42 := aS A420
            clear A420
            by_cases c43 : t170 = 0
            · rw [if_pos c43] at H
              have c43b0 : (t170 == 0) = true := beq_iff_eq.mpr c43
              have c43b1 : (t170 != 0) = false := bne_eq_false_iff_eq.mpr c43
              clear c43
              by_cases c44 : t149 = a0_0
              · rw [if_pos c44] at H
                have c44b0 : (t149 == a0_0) = true := beq_iff_eq.mpr c44
                have c44b1 : (t149 != a0_0) = false := bne_eq_false_iff_eq.mpr c44
                clear c44
                by_cases c45 : (t153.length : Int) < (l0_2.length : Int)
                · rw [if_pos c45] at H
                  have c45b0 : decide ((t153.length : Int) < (l0_2.length : Int)) = true := decide_eq_true c45
                  have c45b1 : decide (t153.length < l0_2.length) = true := decide_eq_true (Int.ofNat_lt.mp c45)
                  clear c45
                  have H' := aS H
                  clear H
                  try go_wp2
                  have n0_ : Aside0 (Kd.V (Kd.int .i64) 3 (((w34.setCell ⟨gb169, 0, none⟩ (.int .i64 t158)).setCell ⟨gb169, 1, none⟩ (.slice Ao39 t159.length co39)).setCell ⟨gb169, 2, none⟩ (.slice Ao40 t162.length co40)) w.heap.size (fun k_ => some k_ ≠ (.slice Ao30 t153.length co30 : Value).ownBlock ∧ some k_ ≠ (.slice Ao40 t162.length co40 : Value).ownBlock ∧ some k_ ≠ (v166 : Value).ownBlock ∧ k_ ≠ gb145 ∧ k_ ≠ gb146 ∧ k_ ≠ gb157 ∧ k_ ≠ gb169) (.slice Ao29 t150.length co29) t150) := ⟨by (with_reducible repeat (first | apply vA|apply vN|apply vD)); exact Kd.V_mono (Kd.V_far (p := ⟨gb169, 2, none⟩) (Kd.V_far (p := ⟨gb169, 1, none⟩) (Kd.V_far (p := ⟨gb169, 0, none⟩) (Kd.V_mono HO152.out (fun k_ hk => (⟨hk, hk.2⟩ : _ ∧ k_ ≠ gb169))) (fun _ hk => hk.2) (.int .i64 t158)) (fun _ hk => hk.2) (.slice Ao39 t159.length co39)) (fun _ hk => hk.2) (.slice Ao40 t162.length co40)) (fun _ hk => ⟨hk.1.1.1.1.1, ⟨hk.1.1.1.2, ⟨hk.1.1.2, ⟨hk.1.1.1.1.2.1, ⟨hk.1.1.1.1.2.2.1, ⟨hk.1.1.1.1.2.2.2, hk.1.2⟩⟩⟩⟩⟩⟩)⟩
                  have n1_ : Aside0 (Kd.R k44 44 (((w34.setCell ⟨gb169, 0, none⟩ (.int .i64 t158)).setCell ⟨gb169, 1, none⟩ (.slice Ao39 t159.length co39)).setCell ⟨gb169, 2, none⟩ (.slice Ao40 t162.length co40)) w.heap.size (fun k_ => some k_ ≠ (.slice Ao40 t162.length co40 : Value).ownBlock) (.slice Ao30 t153.length co30) t153) := ⟨by (with_reducible repeat (first | apply rA|apply rN|apply rD)); exact Kd.R_mono (Kd.R_far (p := ⟨gb169, 2, none⟩) (Kd.R_far (p := ⟨gb169, 1, none⟩) (Kd.R_far (p := ⟨gb169, 0, none⟩) (Kd.R_types HO155.out BK169.out (by decide)) (fun _ hk => hk.2) (.int .i64 t158)) (fun _ hk => hk.2) (.slice Ao39 t159.length co39)) (fun _ hk => hk.2) (.slice Ao40 t162.length co40)) (fun _ hk => hk.1.2)⟩
                  have n2_ : Aside0 (Kd.V (Kd.int .i64) 3 (((w34.setCell ⟨gb169, 0, none⟩ (.int .i64 t158)).setCell ⟨gb169, 1, none⟩ (.slice Ao39 t159.length co39)).setCell ⟨gb169, 2, none⟩ (.slice Ao40 t162.length co40)) w.heap.size (fun k_ => some k_ ≠ (.slice Ao30 t153.length co30 : Value).ownBlock ∧ some k_ ≠ (.slice Ao40 t162.length co40 : Value).ownBlock ∧ some k_ ≠ (v166 : Value).ownBlock ∧ k_ ≠ gb145 ∧ k_ ≠ gb146 ∧ k_ ≠ gb157 ∧ k_ ≠ gb169) (.slice Ao39 t159.length co39) t159) := ⟨by (with_reducible repeat (first | apply vA|apply vN|apply vD)); exact Kd.V_mono (Kd.V_far (p := ⟨gb169, 2, none⟩) (Kd.V_far (p := ⟨gb169, 1, none⟩) (Kd.V_far (p := ⟨gb169, 0, none⟩) (Kd.V_mono HO161.out (fun k_ hk => (⟨hk, hk.2⟩ : _ ∧ k_ ≠ gb169))) (fun _ hk => hk.2) (.int .i64 t158)) (fun _ hk => hk.2) (.slice Ao39 t159.length co39)) (fun _ hk => hk.2) (.slice Ao40 t162.length co40)) (fun _ hk => ⟨hk.1.1.2.2.1, ⟨hk.1.1.1, ⟨hk.1.1.2.1, ⟨hk.1.1.2.2.2.1, ⟨hk.1.1.2.2.2.2.1, ⟨hk.1.1.2.2.2.2.2, hk.1.2⟩⟩⟩⟩⟩⟩)⟩
                  have n3_ : Aside0 (Kd.R k44 44 (((w34.setCell ⟨gb169, 0, none⟩ (.int .i64 t158)).setCell ⟨gb169, 1, none⟩ (.slice Ao39 t159.length co39)).setCell ⟨gb169, 2, none⟩ (.slice Ao40 t162.length co40)) w.heap.size (fun k_ => some k_ ≠ (.slice Ao30 t153.length co30 : Value).ownBlock) (.slice Ao40 t162.length co40) t162) := ⟨by (with_reducible repeat (first | apply rA|apply rN|apply rD)); exact Kd.R_mono (Kd.R_far (p := ⟨gb169, 2, none⟩) (Kd.R_far (p := ⟨gb169, 1, none⟩) (Kd.R_far (p := ⟨gb169, 0, none⟩) (Kd.R_types HO164.out BK169.out (by decide)) (fun _ hk => hk.2) (.int .i64 t158)) (fun _ hk => hk.2) (.slice Ao39 t159.length co39)) (fun _ hk => hk.2) (.slice Ao40 t162.length co40)) (fun _ hk => hk.1.2)⟩
                  have n4_ : Aside0 (Kd.R k27 27 (((w34.setCell ⟨gb169, 0, none⟩ (.int .i64 t158)).setCell ⟨gb169, 1, none⟩ (.slice Ao39 t159.length co39)).setCell ⟨gb169, 2, none⟩ (.slice Ao40 t162.length co40)) w.heap.size (fun k_ => k_ ≠ gb146) v166 t165) := ⟨by (with_reducible repeat (first | apply rA|apply rN|apply rD)); exact Kd.R_mono (Kd.R_far (p := ⟨gb169, 2, none⟩) (Kd.R_far (p := ⟨gb169, 1, none⟩) (Kd.R_far (p := ⟨gb169, 0, none⟩) (Kd.R_types HO167.out BK169.out (by decide)) (fun _ hk => hk.2) (.int .i64 t158)) (fun _ hk => hk.2) (.slice Ao39 t159.length co39)) (fun _ hk => hk.2) (.slice Ao40 t162.length co40)) (fun _ hk => hk.1.2)⟩
                  have n5_ : Aside0 ((((w34.setCell ⟨gb169, 0, none⟩ (.int .i64 t158)).setCell ⟨gb169, 1, none⟩ (.slice Ao39 t159.length co39)).setCell ⟨gb169, 2, none⟩ (.slice Ao40 t162.length co40)).heap[gb145]? = some (.cells #[.int .i64 a0_0, .slice A0_1 l0_1.length c0_1, .slice A0_2 l0_2.length c0_2] 25 (0, 0))) := ⟨by (with_reducible repeat (first | refine blk_drewN ?_ _ | refine blk_drew ?_ | refine blk_alloc ?_ _)); refine blk_far ?_ NB145_169.out _; (with_reducible repeat (first | refine blk_drewN ?_ _ | refine blk_drew ?_ | refine blk_alloc ?_ _)); refine blk_far ?_ NB145_169.out _; (with_reducible repeat (first | refine blk_drewN ?_ _ | refine blk_drew ?_ | refine blk_alloc ?_ _)); refine blk_far ?_ NB145_169.out _; (with_reducible repeat (first | refine blk_drewN ?_ _ | refine blk_drew ?_ | refine blk_alloc ?_ _)); exact BK145.out⟩
                  have n6_ : Aside0 ((((w34.setCell ⟨gb169, 0, none⟩ (.int .i64 t158)).setCell ⟨gb169, 1, none⟩ (.slice Ao39 t159.length co39)).setCell ⟨gb169, 2, none⟩ (.slice Ao40 t162.length co40)).heap[gb146]? = some (.cells #[.int .i64 a1_0, .int .i64 a1_1, .string a1_2] 27 (0, 0))) := ⟨by (with_reducible repeat (first | refine blk_drewN ?_ _ | refine blk_drew ?_ | refine blk_alloc ?_ _)); refine blk_far ?_ NB146_169.out _; (with_reducible repeat (first | refine blk_drewN ?_ _ | refine blk_drew ?_ | refine blk_alloc ?_ _)); refine blk_far ?_ NB146_169.out _; (with_reducible repeat (first | refine blk_drewN ?_ _ | refine blk_drew ?_ | refine blk_alloc ?_ _)); refine blk_far ?_ NB146_169.out _; (with_reducible repeat (first | refine blk_drewN ?_ _ | refine blk_drew ?_ | refine blk_alloc ?_ _)); exact BK146.out⟩
                  have n7_ : Aside0 ((((w34.setCell ⟨gb169, 0, none⟩ (.int .i64 t158)).setCell ⟨gb169, 1, none⟩ (.slice Ao39 t159.length co39)).setCell ⟨gb169, 2, none⟩ (.slice Ao40 t162.length co40)).heap[gb157]? = some (.cells #[.int .i64 t149, .slice Ao29 t150.length co29, .slice Ao30 t153.length co30] 25 (0, 0))) := ⟨by (with_reducible repeat (first | refine blk_drewN ?_ _ | refine blk_drew ?_ | refine blk_alloc ?_ _)); refine blk_far ?_ NB157_169.out _; (with_reducible repeat (first | refine blk_drewN ?_ _ | refine blk_drew ?_ | refine blk_alloc ?_ _)); refine blk_far ?_ NB157_169.out _; (with_reducible repeat (first | refine blk_drewN ?_ _ | refine blk_drew ?_ | refine blk_alloc ?_ _)); refine blk_far ?_ NB157_169.out _; (with_reducible repeat (first | refine blk_drewN ?_ _ | refine blk_drew ?_ | refine blk_alloc ?_ _)); exact BK157.out⟩
                  have n8_ : Aside0 ((((w34.setCell ⟨gb169, 0, none⟩ (.int .i64 t158)).setCell ⟨gb169, 1, none⟩ (.slice Ao39 t159.length co39)).setCell ⟨gb169, 2, none⟩ (.slice Ao40 t162.length co40)).heap[gb169]? = some (.cells #[.int .i64 t158, .slice Ao39 t159.length co39, .slice Ao40 t162.length co40] 25 (0, 0))) := ⟨by (with_reducible repeat (first | refine blk_drewN ?_ _ | refine blk_drew ?_ | refine blk_alloc ?_ _)); refine blk_put (cs := #[.int .i64 t158, .slice Ao39 t159.length co39, .slice none 0 0]) ?_ 2 _ rfl; (with_reducible repeat (first | refine blk_drewN ?_ _ | refine blk_drew ?_ | refine blk_alloc ?_ _)); refine blk_put (cs := #[.int .i64 t158, .slice none 0 0, .slice none 0 0]) ?_ 1 _ rfl; (with_reducible repeat (first | refine blk_drewN ?_ _ | refine blk_drew ?_ | refine blk_alloc ?_ _)); refine blk_put (cs := #[.int .i64 0, .slice none 0 0, .slice none 0 0]) ?_ 0 _ rfl; (with_reducible repeat (first | refine blk_drewN ?_ _ | refine blk_drew ?_ | refine blk_alloc ?_ _)); exact BK169.out⟩
                  have n9_ : Aside0 (Below w.heap.size w (((w34.setCell ⟨gb169, 0, none⟩ (.int .i64 t158)).setCell ⟨gb169, 1, none⟩ (.slice Ao39 t159.length co39)).setCell ⟨gb169, 2, none⟩ (.slice Ao40 t162.length co40))) := ⟨by repeat (first | (with_reducible first | exact HB.out | apply bA|apply bN|apply bD | refine below_set ?_ GE145.out | refine below_set ?_ GE146.out | refine below_set ?_ GE157.out | refine below_set ?_ GE169.out) | exact HB.out)⟩
                  (try clear HO152)
                  (try clear HO155)
                  (try clear HO161)
                  (try clear HO164)
                  (try clear HO167)
                  (try clear BK145)
                  (try clear BK146)
                  (try clear BK157)
                  (try clear BK169)
                  (try clear HB)
                  generalize (((w34.setCell ⟨gb169, 0, none⟩ (.int .i64 t158)).setCell ⟨gb169, 1, none⟩ (.slice Ao39 t159.length co39)).setCell ⟨gb169, 2, none⟩ (.slice Ao40 t162.length co40)) = w46 at n0_ n1_ n2_ n3_ n4_ n5_ n6_ n7_ n8_ n9_ ⊢
                  have HO152 := n0_
                  have HO155 := n1_
                  have HO161 := n2_
                  have HO164 := n3_
                  have HO167 := n4_
                  have BK145 := n5_
                  have BK146 := n6_
                  have BK157 := n7_
                  have BK169 := n8_
                  have HB := n9_
                  clear n0_ n1_ n2_ n3_ n4_ n5_ n6_ n7_ n8_ n9_
                  have n0_ := aS (Kd.V_drew HO152.out)
                  have n1_ := aS (Kd.R_drew HO155.out)
                  have n2_ := aS (Kd.V_drew HO161.out)
                  have n3_ := aS (Kd.R_drew HO164.out)
                  have n4_ := aS (Kd.R_drew HO167.out)
                  have n5_ := aS (blk_drew BK145.out)
                  have n6_ := aS (blk_drew BK146.out)
                  have n7_ := aS (blk_drew BK157.out)
                  have n8_ := aS (blk_drew BK169.out)
                  have n9_ := aS (below_drew1 HB.out)
                  clear HO152
                  clear HO155
                  clear HO161
                  clear HO164
                  clear HO167
                  clear BK145
                  clear BK146
                  clear BK157
                  clear BK169
                  clear HB
                  have HO152 := n0_
                  have HO155 := n1_
                  have HO161 := n2_
                  have HO164 := n3_
                  have HO167 := n4_
                  have BK145 := n5_
                  have BK146 := n6_
                  have BK157 := n7_
                  have BK169 := n8_
                  have HB := n9_
                  clear n0_ n1_ n2_ n3_ n4_ n5_ n6_ n7_ n8_ n9_
                  refine start_ (n := 35) (S := fun w' => w'.cell? ⟨gb157, 0, none⟩ = some (.int .i64 t149) ∧ w'.cell? ⟨gb157, 1, none⟩ = some (.slice Ao29 t150.length co29) ∧ w'.cell? ⟨gb157, 2, none⟩ = some (.slice Ao30 t153.length co30) ∧ w'.cell? ⟨gb145, 0, none⟩ = some (.int .i64 a0_0) ∧ w'.cell? ⟨gb145, 1, none⟩ = some (.slice A0_1 l0_1.length c0_1) ∧ w'.cell? ⟨gb145, 2, none⟩ = some (.slice A0_2 l0_2.length c0_2)) (ds := []) #[false, false, false, false, false, false, false, false, false, false, false, false, false, false, false, false, false, false, false, false, false, false, false, false, false, false, false, false, false, false, false, false, false, false, false] (by kernel_rfl) rfl rfl ⟨(blk_cell BK157.out 0).trans rfl, (blk_cell BK157.out 1).trans rfl, (blk_cell BK157.out 2).trans rfl, (blk_cell BK145.out 0).trans rfl, (blk_cell BK145.out 1).trans rfl, (blk_cell BK145.out 2).trans rfl⟩ (fun hHeld => ?_); refine with_tabW lookoutlaw50_NetworkValid.tab5 lookoutlaw50_NetworkValid.bits5 (fun HT_ HW_ => ?_)
                  generalize w46.drew = w47 at HO152 HO155 HO161 HO164 HO167 BK145 BK146 BK157 BK169 HB hHeld ⊢
                  refine pure_ (i := 0) (N := some 32) (v := ?_) (a' := ?_) #[true, false, false, false, false, false, false, false, false, false, false, false, false, false, false, false, false, false, false, false, false, false, false, false, false, false, false, false, false, false, false, false, false, false, false] rfl rfl (any_of HT_.out (by kernel_rfl)) (fun _ _ _ h => h) (Or.inl ⟨by rfl, ?_⟩) ?_ ?_
                  rotate_left
                  · intro w'
                    go_simp
                    with_reducible rfl
                  rotate_left
                  · simp only [Act.put, List.setIfInBounds_toArray, List.set_cons_zero, List.set_cons_succ, i64_w, i32_w]
                    rfl
                  refine pure_ (i := 1) (N := some 33) (v := ?_) (a' := ?_) #[true, true, false, false, false, false, false, false, false, false, false, false, false, false, false, false, false, false, false, false, false, false, false, false, false, false, false, false, false, false, false, false, false, false, false] rfl rfl (any_of HT_.out (by kernel_rfl)) (fun _ _ _ h => h) (Or.inl ⟨by rfl, ?_⟩) ?_ ?_
                  rotate_left
                  · intro w'
                    go_simp
                    with_reducible rfl
                  rotate_left
                  · simp only [Act.put, List.setIfInBounds_toArray, List.set_cons_zero, List.set_cons_succ, i64_w, i32_w]
                    rfl
                  refine pure_ (i := 2) (N := some 34) (v := ?_) (a' := ?_) #[true, true, true, false, false, false, false, false, false, false, false, false, false, false, false, false, false, false, false, false, false, false, false, false, false, false, false, false, false, false, false, false, false, false, false] rfl rfl (any_of HT_.out (by kernel_rfl)) (fun _ _ _ h => h) (Or.inl ⟨by rfl, ?_⟩) ?_ ?_
                  rotate_left
                  · intro w'
                    go_simp
                    with_reducible rfl
                  rotate_left
                  · simp only [Act.put, List.setIfInBounds_toArray, List.set_cons_zero, List.set_cons_succ, i64_w, i32_w]
                    rfl
                  refine take_ (i := 3) (N := some 35) (v := ?_) (a' := ?_) #[true, true, true, true, false, false, false, false, false, false, false, false, false, false, false, false, false, false, false, false, false, false, false, false, false, false, false, false, false, false, false, false, false, false, false] rfl rfl (take_ofW HT_.out HW_.out (by kernel_rfl)) (fun _ _ _ h => h) (Or.inl ⟨by rfl, ?_⟩) hHeld ?_ ?_
                  rotate_left
                  · rintro w' ⟨s0, s1, s2, s3, s4, s5⟩
                    go_simp
                    with_reducible rfl
                  rotate_left
                  · simp only [Act.put, List.setIfInBounds_toArray, List.set_cons_zero, List.set_cons_succ, i64_w, i32_w]
                    rfl
                  refine one_ (i := 4) (N := some 36) #[true, true, true, true, true, false, false, false, false, false, false, false, false, false, false, false, false, false, false, false, false, false, false, false, false, false, false, false, false, false, false, false, false, false, false] rfl rfl (one_of HT_.out (by kernel_rfl)) (by decide) (fun K hK => ?_)
                  refine goes_ Try.func15 (by kernel_rfl) rfl #[.agg #[.int .i64 t149, .slice Ao29 t150.length co29, .slice Ao30 t153.length co30]] (by rfl) rfl rfl (by (try simp only [List.map_toArray, List.map_cons, List.map_nil]); first | done | rfl | (simp only [List.length_drop, List.length_take]; rfl)) ?_
                  with_reducible refine (network_Check.calls kj2 t149 _ _ t150 _ _ t153 t170 _ ?side1 ?side2 ?side3 ?side4 A42.out).mono ?_
                  (case side1 => repeat (first | exact (Kd.V_reads' HO152.out).2.2 | (with_reducible refine Kd.C_alloc ?_ _) | (with_reducible refine Kd.C_drewN ?_ _) | (with_reducible refine Kd.C_drew ?_)))
                  (case side2 => exact (Kd.V_reads' HO152.out).2.1)
                  (case side3 => repeat (first | exact (Kd.R_reads' HO155.out).2.2 | (with_reducible refine Kd.C_alloc ?_ _) | (with_reducible refine Kd.C_drewN ?_ _) | (with_reducible refine Kd.C_drew ?_)))
                  (case side4 => exact (Kd.R_reads' HO155.out).2.1)
                  rintro e w48 ⟨rfl, hb⟩
                  refine ⟨_, rfl, ?_⟩
                  have n0_ := aS (Kd.V_below (by (with_reducible repeat (first | apply vA|apply vN|apply vD)); exact HO152.out) hb)
                  have n1_ := aS (Kd.R_below (by (with_reducible repeat (first | apply rA|apply rN|apply rD)); exact HO155.out) hb)
                  have n2_ := aS (Kd.V_below (by (with_reducible repeat (first | apply vA|apply vN|apply vD)); exact HO161.out) hb)
                  have n3_ := aS (Kd.R_below (by (with_reducible repeat (first | apply rA|apply rN|apply rD)); exact HO164.out) hb)
                  have n4_ := aS (Kd.R_below (by (with_reducible repeat (first | apply rA|apply rN|apply rD)); exact HO167.out) hb)
                  have n5_ := aS (blk_below (g := gb145) (o := .cells #[.int .i64 a0_0, .slice A0_1 l0_1.length c0_1, .slice A0_2 l0_2.length c0_2] 25 (0, 0)) (by (with_reducible repeat (first | refine blk_drewN ?_ _ | refine blk_drew ?_ | refine blk_alloc ?_ _)); exact BK145.out) hb)
                  have n6_ := aS (blk_below (g := gb146) (o := .cells #[.int .i64 a1_0, .int .i64 a1_1, .string a1_2] 27 (0, 0)) (by (with_reducible repeat (first | refine blk_drewN ?_ _ | refine blk_drew ?_ | refine blk_alloc ?_ _)); exact BK146.out) hb)
                  have n7_ := aS (blk_below (g := gb157) (o := .cells #[.int .i64 t149, .slice Ao29 t150.length co29, .slice Ao30 t153.length co30] 25 (0, 0)) (by (with_reducible repeat (first | refine blk_drewN ?_ _ | refine blk_drew ?_ | refine blk_alloc ?_ _)); exact BK157.out) hb)
                  have n8_ := aS (blk_below (g := gb169) (o := .cells #[.int .i64 t158, .slice Ao39 t159.length co39, .slice Ao40 t162.length co40] 25 (0, 0)) (by (with_reducible repeat (first | refine blk_drewN ?_ _ | refine blk_drew ?_ | refine blk_alloc ?_ _)); exact BK169.out) hb)
                  have n9_ := aS (below_step (by repeat (first | (with_reducible first | exact HB.out | apply bA|apply bN|apply bD | refine below_set ?_ GE145.out | refine below_set ?_ GE146.out | refine below_set ?_ GE157.out | refine below_set ?_ GE169.out) | exact HB.out)) hb)
                  clear HO152
                  clear HO155
                  clear HO161
                  clear HO164
                  clear HO167
                  clear BK145
                  clear BK146
                  clear BK157
                  clear BK169
                  clear HB
                  have HO152 := n0_
                  have HO155 := n1_
                  have HO161 := n2_
                  have HO164 := n3_
                  have HO167 := n4_
                  have BK145 := n5_
                  have BK146 := n6_
                  have BK157 := n7_
                  have BK169 := n8_
                  have HB := n9_
                  clear n0_ n1_ n2_ n3_ n4_ n5_ n6_ n7_ n8_ n9_
                  (try clear hb)
                  (try clear hb2)
                  (try clear hk)
                  (try clear hi)
                  refine hK.out _ _ ⟨(blk_cell BK157.out 0).trans rfl, (blk_cell BK157.out 1).trans rfl, (blk_cell BK157.out 2).trans rfl, (blk_cell BK145.out 0).trans rfl, (blk_cell BK145.out 1).trans rfl, (blk_cell BK145.out 2).trans rfl⟩ (fun hHeld => ?_)
                  clear hK K
                  refine norm_ (a' := ?_) ?_ ?_
                  rotate_left
                  · show Act.put _ (some 36) _ = _
                    simp only [Act.put, List.setIfInBounds_toArray, List.set_cons_zero, List.set_cons_succ, i64_w, i32_w]
                    rfl
                  refine pure_ (i := 5) (N := some 37) (v := ?_) (a' := ?_) #[true, true, true, true, true, true, false, false, false, false, false, false, false, false, false, false, false, false, false, false, false, false, false, false, false, false, false, false, false, false, false, false, false, false, false] rfl rfl (any_of HT_.out (by kernel_rfl)) (fun _ _ _ h => h) (Or.inl ⟨by rfl, ?_⟩) ?_ ?_
                  rotate_left
                  · intro w'
                    go_simp
                    with_reducible rfl
                  rotate_left
                  · simp only [Act.put, List.setIfInBounds_toArray, List.set_cons_zero, List.set_cons_succ, i64_w, i32_w]
                    rfl
                  refine pure_ (i := 6) (N := some 38) (v := ?_) (a' := ?_) #[true, true, true, true, true, true, true, false, false, false, false, false, false, false, false, false, false, false, false, false, false, false, false, false, false, false, false, false, false, false, false, false, false, false, false] rfl rfl (any_of HT_.out (by kernel_rfl)) (fun _ _ _ h => h) (Or.inl ⟨by rfl, ?_⟩) ?_ ?_
                  rotate_left
                  · intro w'
                    go_simp
                    with_reducible rfl
                  rotate_left
                  · simp only [Act.put, List.setIfInBounds_toArray, List.set_cons_zero, List.set_cons_succ, i64_w, i32_w]
                    rfl
                  refine pure_ (i := 7) (N := some 39) (v := ?_) (a' := ?_) #[true, true, true, true, true, true, true, true, false, false, false, false, false, false, false, false, false, false, false, false, false, false, false, false, false, false, false, false, false, false, false, false, false, false, false] rfl rfl (any_of HT_.out (by kernel_rfl)) (fun _ _ _ h => h) (Or.inl ⟨by rfl, ?_⟩) ?_ ?_
                  rotate_left
                  · intro w'
                    go_simp
                    with_reducible rfl
                  rotate_left
                  · simp only [Act.put, List.setIfInBounds_toArray, List.set_cons_zero, List.set_cons_succ, i64_w, i32_w]
                    rfl
                  refine pure_ (i := 9) (N := some 41) (v := ?_) (a' := ?_) #[true, true, true, true, true, true, true, true, false, true, false, false, false, false, false, false, false, false, false, false, false, false, false, false, false, false, false, false, false, false, false, false, false, false, false] rfl rfl (any_of HT_.out (by kernel_rfl)) (fun _ _ _ h => h) (Or.inl ⟨by rfl, ?_⟩) ?_ ?_
                  rotate_left
                  · intro w'
                    go_simp
                    with_reducible rfl
                  rotate_left
                  · simp only [Act.put, List.setIfInBounds_toArray, List.set_cons_zero, List.set_cons_succ, i64_w, i32_w]
                    rfl
                  refine take_ (i := 8) (N := some 40) (v := ?_) (a' := ?_) #[true, true, true, true, true, true, true, true, true, true, false, false, false, false, false, false, false, false, false, false, false, false, false, false, false, false, false, false, false, false, false, false, false, false, false] rfl rfl (take_ofW HT_.out HW_.out (by kernel_rfl)) (fun _ _ _ h => h) (Or.inl ⟨by rfl, ?_⟩) hHeld ?_ ?_
                  rotate_left
                  · rintro w' ⟨s0, s1, s2, s3, s4, s5⟩
                    go_simp
                    with_reducible rfl
                  rotate_left
                  · simp only [Act.put, List.setIfInBounds_toArray, List.set_cons_zero, List.set_cons_succ, i64_w, i32_w]
                    rfl
                  refine take_ (i := 10) (N := some 42) (v := ?_) (a' := ?_) #[true, true, true, true, true, true, true, true, true, true, true, false, false, false, false, false, false, false, false, false, false, false, false, false, false, false, false, false, false, false, false, false, false, false, false] rfl rfl (take_ofW HT_.out HW_.out (by kernel_rfl)) (fun _ _ _ h => h) (Or.inl ⟨by rfl, ?_⟩) hHeld ?_ ?_
                  rotate_left
                  · rintro w' ⟨s0, s1, s2, s3, s4, s5⟩
                    go_simp
                    with_reducible rfl
                  rotate_left
                  · simp only [Act.put, List.setIfInBounds_toArray, List.set_cons_zero, List.set_cons_succ, i64_w, i32_w]
                    rfl
                  refine pure_ (i := 11) (N := some 43) (v := ?_) (a' := ?_) #[true, true, true, true, true, true, true, true, true, true, true, true, false, false, false, false, false, false, false, false, false, false, false, false, false, false, false, false, false, false, false, false, false, false, false] rfl rfl (any_of HT_.out (by kernel_rfl)) (fun _ _ _ h => h) (Or.inl ⟨by rfl, ?_⟩) ?_ ?_
                  rotate_left
                  · intro w'
                    go_simp
                    with_reducible rfl
                  rotate_left
                  · simp only [Act.put, List.setIfInBounds_toArray, List.set_cons_zero, List.set_cons_succ, i64_w, i32_w]
                    rfl
                  refine pure_ (i := 12) (N := some 44) (v := ?_) (a' := ?_) #[true, true, true, true, true, true, true, true, true, true, true, true, true, false, false, false, false, false, false, false, false, false, false, false, false, false, false, false, false, false, false, false, false, false, false] rfl rfl (any_of HT_.out (by kernel_rfl)) (fun _ _ _ h => h) (Or.inl ⟨by rfl, ?_⟩) ?_ ?_
                  rotate_left
                  · intro w'
                    go_simp
                    with_reducible rfl
                  rotate_left
                  · simp only [Act.put, List.setIfInBounds_toArray, List.set_cons_zero, List.set_cons_succ, i64_w, i32_w]
                    rfl
                  refine pure_ (i := 13) (N := some 45) (v := ?_) (a' := ?_) #[true, true, true, true, true, true, true, true, true, true, true, true, true, true, false, false, false, false, false, false, false, false, false, false, false, false, false, false, false, false, false, false, false, false, false] rfl rfl (any_of HT_.out (by kernel_rfl)) (fun _ _ _ h => h) (Or.inl ⟨by rfl, ?_⟩) ?_ ?_
                  rotate_left
                  · intro w'
                    go_simp
                    with_reducible rfl
                  rotate_left
                  · simp only [Act.put, List.setIfInBounds_toArray, List.set_cons_zero, List.set_cons_succ, i64_w, i32_w]
                    rfl
                  refine pure_ (i := 14) (N := some 46) (v := ?_) (a' := ?_) #[true, true, true, true, true, true, true, true, true, true, true, true, true, true, true, false, false, false, false, false, false, false, false, false, false, false, false, false, false, false, false, false, false, false, false] rfl rfl (any_of HT_.out (by kernel_rfl)) (fun _ _ _ h => h) (Or.inl ⟨by rfl, ?_⟩) ?_ ?_
                  rotate_left
                  · intro w'
                    go_simp
                    with_reducible rfl
                  rotate_left
                  · simp only [Act.put, List.setIfInBounds_toArray, List.set_cons_zero, List.set_cons_succ, i64_w, i32_w]
                    rfl
                  refine pure_ (i := 17) (N := some 49) (v := ?_) (a' := ?_) #[true, true, true, true, true, true, true, true, true, true, true, true, true, true, true, false, false, true, false, false, false, false, false, false, false, false, false, false, false, false, false, false, false, false, false] rfl rfl (any_of HT_.out (by kernel_rfl)) (fun _ _ _ h => h) (Or.inl ⟨by rfl, ?_⟩) ?_ ?_
                  rotate_left
                  · intro w'
                    go_simp
                    with_reducible rfl
                  rotate_left
                  · simp only [Act.put, List.setIfInBounds_toArray, List.set_cons_zero, List.set_cons_succ, i64_w, i32_w]
                    rfl
                  refine take_ (i := 15) (N := some 47) (v := ?_) (a' := ?_) #[true, true, true, true, true, true, true, true, true, true, true, true, true, true, true, true, false, true, false, false, false, false, false, false, false, false, false, false, false, false, false, false, false, false, false] rfl rfl (take_ofW HT_.out HW_.out (by kernel_rfl)) (fun _ _ _ h => h) (Or.inl ⟨by rfl, ?_⟩) hHeld ?_ ?_
                  rotate_left
                  · rintro w' ⟨s0, s1, s2, s3, s4, s5⟩
                    go_simp
                    with_reducible rfl
                  rotate_left
                  · simp only [Act.put, List.setIfInBounds_toArray, List.set_cons_zero, List.set_cons_succ, i64_w, i32_w]
                    rfl
                  refine pure_ (i := 16) (N := some 48) (v := ?_) (a' := ?_) #[true, true, true, true, true, true, true, true, true, true, true, true, true, true, true, true, true, true, false, false, false, false, false, false, false, false, false, false, false, false, false, false, false, false, false] rfl rfl (any_of HT_.out (by kernel_rfl)) (fun _ _ _ h => h) (Or.inl ⟨by rfl, ?_⟩) ?_ ?_
                  rotate_left
                  · intro w'
                    go_simp
                    with_reducible rfl
                  rotate_left
                  · simp only [Act.put, List.setIfInBounds_toArray, List.set_cons_zero, List.set_cons_succ, i64_w, i32_w]
                    rfl
                  refine take_ (i := 18) (N := some 50) (v := ?_) (a' := ?_) #[true, true, true, true, true, true, true, true, true, true, true, true, true, true, true, true, true, true, true, false, false, false, false, false, false, false, false, false, false, false, false, false, false, false, false] rfl rfl (take_ofW HT_.out HW_.out (by kernel_rfl)) (fun _ _ _ h => h) (Or.inl ⟨by rfl, ?_⟩) hHeld ?_ ?_
                  rotate_left
                  · rintro w' ⟨s0, s1, s2, s3, s4, s5⟩
                    go_simp
                    with_reducible rfl
                  rotate_left
                  · simp only [Act.put, List.setIfInBounds_toArray, List.set_cons_zero, List.set_cons_succ, i64_w, i32_w]
                    rfl
                  refine pure_ (i := 19) (N := some 51) (v := ?_) (a' := ?_) #[true, true, true, true, true, true, true, true, true, true, true, true, true, true, true, true, true, true, true, true, false, false, false, false, false, false, false, false, false, false, false, false, false, false, false] rfl rfl (any_of HT_.out (by kernel_rfl)) (fun _ _ _ h => h) (Or.inl ⟨by rfl, ?_⟩) ?_ ?_
                  rotate_left
                  · intro w'
                    go_simp
                    with_reducible rfl
                  rotate_left
                  · simp only [Act.put, List.setIfInBounds_toArray, List.set_cons_zero, List.set_cons_succ, i64_w, i32_w]
                    rfl
                  refine pure_ (i := 20) (N := some 52) (v := ?_) (a' := ?_) #[true, true, true, true, true, true, true, true, true, true, true, true, true, true, true, true, true, true, true, true, true, false, false, false, false, false, false, false, false, false, false, false, false, false, false] rfl rfl (any_of HT_.out (by kernel_rfl)) (fun _ _ _ h => h) (Or.inl ⟨by rfl, ?_⟩) ?_ ?_
                  rotate_left
                  · intro w'
                    go_simp
                    with_reducible rfl
                  rotate_left
                  · simp only [Act.put, List.setIfInBounds_toArray, List.set_cons_zero, List.set_cons_succ, i64_w, i32_w]
                    rfl
                  refine pure_ (i := 21) (N := some 53) (v := ?_) (a' := ?_) #[true, true, true, true, true, true, true, true, true, true, true, true, true, true, true, true, true, true, true, true, true, true, false, false, false, false, false, false, false, false, false, false, false, false, false] rfl rfl (any_of HT_.out (by kernel_rfl)) (fun _ _ _ h => h) (Or.inl ⟨by rfl, ?_⟩) ?_ ?_
                  rotate_left
                  · intro w'
                    go_simp
                    with_reducible rfl
                  rotate_left
                  · simp only [Act.put, List.setIfInBounds_toArray, List.set_cons_zero, List.set_cons_succ, i64_w, i32_w]
                    rfl
                  refine pure_ (i := 22) (N := some 54) (v := ?_) (a' := ?_) #[true, true, true, true, true, true, true, true, true, true, true, true, true, true, true, true, true, true, true, true, true, true, true, false, false, false, false, false, false, false, false, false, false, false, false] rfl rfl (any_of HT_.out (by kernel_rfl)) (fun _ _ _ h => h) (Or.inl ⟨by rfl, ?_⟩) ?_ ?_
                  rotate_left
                  · intro w'
                    go_simp
                    with_reducible rfl
                  rotate_left
                  · simp only [Act.put, List.setIfInBounds_toArray, List.set_cons_zero, List.set_cons_succ, i64_w, i32_w]
                    rfl
                  refine pure_ (i := 23) (N := some 55) (v := undef) (a' := ?_) #[true, true, true, true, true, true, true, true, true, true, true, true, true, true, true, true, true, true, true, true, true, true, true, true, false, false, false, false, false, false, false, false, false, false, false] rfl rfl (any_of HT_.out (by kernel_rfl)) (fun _ _ _ h => h) (Or.inr ⟨by rfl, rfl⟩) ?_ ?_
                  rotate_left
                  · simp only [Act.put, List.setIfInBounds_toArray, List.set_cons_zero, List.set_cons_succ, i64_w, i32_w]
                    rfl
                  refine pure_ (i := 24) (N := some 56) (v := undef) (a' := ?_) #[true, true, true, true, true, true, true, true, true, true, true, true, true, true, true, true, true, true, true, true, true, true, true, true, true, false, false, false, false, false, false, false, false, false, false] rfl rfl (any_of HT_.out (by kernel_rfl)) (fun _ _ _ h => h) (Or.inr ⟨by rfl, rfl⟩) ?_ ?_
                  rotate_left
                  · simp only [Act.put, List.setIfInBounds_toArray, List.set_cons_zero, List.set_cons_succ, i64_w, i32_w]
                    rfl
                  refine pure_ (i := 25) (N := some 57) (v := undef) (a' := ?_) #[true, true, true, true, true, true, true, true, true, true, true, true, true, true, true, true, true, true, true, true, true, true, true, true, true, true, false, false, false, false, false, false, false, false, false] rfl rfl (any_of HT_.out (by kernel_rfl)) (fun _ _ _ h => h) (Or.inr ⟨by rfl, rfl⟩) ?_ ?_
                  rotate_left
                  · simp only [Act.put, List.setIfInBounds_toArray, List.set_cons_zero, List.set_cons_succ, i64_w, i32_w]
                    rfl
                  refine pure_ (i := 26) (N := some 58) (v := undef) (a' := ?_) #[true, true, true, true, true, true, true, true, true, true, true, true, true, true, true, true, true, true, true, true, true, true, true, true, true, true, true, false, false, false, false, false, false, false, false] rfl rfl (any_of HT_.out (by kernel_rfl)) (fun _ _ _ h => h) (Or.inr ⟨by rfl, rfl⟩) ?_ ?_
                  rotate_left
                  · simp only [Act.put, List.setIfInBounds_toArray, List.set_cons_zero, List.set_cons_succ, i64_w, i32_w]
                    rfl
                  refine pure_ (i := 27) (N := some 59) (v := undef) (a' := ?_) #[true, true, true, true, true, true, true, true, true, true, true, true, true, true, true, true, true, true, true, true, true, true, true, true, true, true, true, true, false, false, false, false, false, false, false] rfl rfl (any_of HT_.out (by kernel_rfl)) (fun _ _ _ h => h) (Or.inr ⟨by rfl, rfl⟩) ?_ ?_
                  rotate_left
                  · simp only [Act.put, List.setIfInBounds_toArray, List.set_cons_zero, List.set_cons_succ, i64_w, i32_w]
                    rfl
                  refine pure_ (i := 28) (N := some 60) (v := undef) (a' := ?_) #[true, true, true, true, true, true, true, true, true, true, true, true, true, true, true, true, true, true, true, true, true, true, true, true, true, true, true, true, true, false, false, false, false, false, false] rfl rfl (any_of HT_.out (by kernel_rfl)) (fun _ _ _ h => h) (Or.inr ⟨by rfl, rfl⟩) ?_ ?_
                  rotate_left
                  · simp only [Act.put, List.setIfInBounds_toArray, List.set_cons_zero, List.set_cons_succ, i64_w, i32_w]
                    rfl
                  refine pure_ (i := 29) (N := some 61) (v := undef) (a' := ?_) #[true, true, true, true, true, true, true, true, true, true, true, true, true, true, true, true, true, true, true, true, true, true, true, true, true, true, true, true, true, true, false, false, false, false, false] rfl rfl (any_of HT_.out (by kernel_rfl)) (fun _ _ _ h => h) (Or.inr ⟨by rfl, rfl⟩) ?_ ?_
                  rotate_left
                  · simp only [Act.put, List.setIfInBounds_toArray, List.set_cons_zero, List.set_cons_succ, i64_w, i32_w]
                    rfl
                  refine pure_ (i := 30) (N := some 62) (v := undef) (a' := ?_) #[true, true, true, true, true, true, true, true, true, true, true, true, true, true, true, true, true, true, true, true, true, true, true, true, true, true, true, true, true, true, true, false, false, false, false] rfl rfl (any_of HT_.out (by kernel_rfl)) (fun _ _ _ h => h) (Or.inr ⟨by rfl, rfl⟩) ?_ ?_
                  rotate_left
                  · simp only [Act.put, List.setIfInBounds_toArray, List.set_cons_zero, List.set_cons_succ, i64_w, i32_w]
                    rfl
                  refine pure_ (i := 31) (N := some 63) (v := undef) (a' := ?_) #[true, true, true, true, true, true, true, true, true, true, true, true, true, true, true, true, true, true, true, true, true, true, true, true, true, true, true, true, true, true, true, true, false, false, false] rfl rfl (any_of HT_.out (by kernel_rfl)) (fun _ _ _ h => h) (Or.inr ⟨by rfl, rfl⟩) ?_ ?_
                  rotate_left
                  · simp only [Act.put, List.setIfInBounds_toArray, List.set_cons_zero, List.set_cons_succ, i64_w, i32_w]
                    rfl
                  refine pure_ (i := 32) (N := some 64) (v := undef) (a' := ?_) #[true, true, true, true, true, true, true, true, true, true, true, true, true, true, true, true, true, true, true, true, true, true, true, true, true, true, true, true, true, true, true, true, true, false, false] rfl rfl (any_of HT_.out (by kernel_rfl)) (fun _ _ _ h => h) (Or.inr ⟨by rfl, rfl⟩) ?_ ?_
                  rotate_left
                  · simp only [Act.put, List.setIfInBounds_toArray, List.set_cons_zero, List.set_cons_succ, i64_w, i32_w]
                    rfl
                  refine pure_ (i := 33) (N := some 65) (v := ?_) (a' := ?_) #[true, true, true, true, true, true, true, true, true, true, true, true, true, true, true, true, true, true, true, true, true, true, true, true, true, true, true, true, true, true, true, true, true, true, false] rfl rfl (any_of HT_.out (by kernel_rfl)) (fun _ _ _ h => h) (Or.inl ⟨by rfl, ?_⟩) ?_ ?_
                  rotate_left
                  · intro w'
                    go_simp
                    with_reducible rfl
                  rotate_left
                  · simp only [Act.put, List.setIfInBounds_toArray, List.set_cons_zero, List.set_cons_succ, i64_w, i32_w]
                    rfl
                  refine pure_ (i := 34) (N := some 66) (v := ?_) (a' := ?_) #[true, true, true, true, true, true, true, true, true, true, true, true, true, true, true, true, true, true, true, true, true, true, true, true, true, true, true, true, true, true, true, true, true, true, true] rfl rfl (any_of HT_.out (by kernel_rfl)) (fun _ _ _ h => h) (Or.inl ⟨by rfl, ?_⟩) ?_ ?_
                  rotate_left
                  · intro w'
                    go_simp
                    with_reducible rfl
                  rotate_left
                  · simp only [Act.put, List.setIfInBounds_toArray, List.set_cons_zero, List.set_cons_succ, i64_w, i32_w]
                    rfl
                  refine done_ (done_of HT_.out (by kernel_rfl)) ?_
                  try go_wp2
                  go_meet
                  case rel => exact ⟨_, (true), (by first | rfl | (simp; done) | (simp [*]; done)), H', ⟨by have := HJ2.out; first | omega | exact Nat.le_refl _⟩, ⟨by (with_reducible repeat (first | apply rA|apply rN|apply rD)); exact HO167.out⟩, ⟨by (with_reducible repeat (first | apply vA|apply vN|apply vD)); exact Kd.V_mono HO152.out (fun _ hk => ⟨hk.2.2.1, ⟨hk.1, ⟨hk.2.1, ⟨hk.2.2.2.1, ⟨hk.2.2.2.2.1, ⟨hk.2.2.2.2.2.1, hk.2.2.2.2.2.2⟩⟩⟩⟩⟩⟩)⟩, ⟨by (with_reducible repeat (first | apply rA|apply rN|apply rD)); exact HO155.out⟩, ⟨by (with_reducible repeat (first | apply vA|apply vN|apply vD)); exact Kd.V_mono HO161.out (fun _ hk => ⟨hk.2.2.1, ⟨hk.1, ⟨hk.2.1, ⟨hk.2.2.2.1, ⟨hk.2.2.2.2.1, ⟨hk.2.2.2.2.2.1, hk.2.2.2.2.2.2⟩⟩⟩⟩⟩⟩)⟩, ⟨by (with_reducible repeat (first | apply rA|apply rN|apply rD)); exact HO164.out⟩, ⟨by (with_reducible repeat (first | refine blk_drewN ?_ _ | refine blk_drew ?_ | refine blk_alloc ?_ _)); exact BK145.out⟩, ⟨by (with_reducible repeat (first | refine blk_drewN ?_ _ | refine blk_drew ?_ | refine blk_alloc ?_ _)); exact BK146.out⟩, ⟨by (with_reducible repeat (first | refine blk_drewN ?_ _ | refine blk_drew ?_ | refine blk_alloc ?_ _)); exact BK157.out⟩, ⟨by (with_reducible repeat (first | refine blk_drewN ?_ _ | refine blk_drew ?_ | refine blk_alloc ?_ _)); exact BK169.out⟩, ⟨by repeat (first | (with_reducible first | exact HB.out | apply bA|apply bN|apply bD | refine below_set ?_ GE145.out | refine below_set ?_ GE146.out | refine below_set ?_ GE157.out | refine below_set ?_ GE169.out) | exact HB.out)⟩⟩
                · rw [if_neg c45] at H
                  have c45b0 : decide ((t153.length : Int) < (l0_2.length : Int)) = false := decide_eq_false c45
                  have c45b1 : decide (t153.length < l0_2.length) = false := decide_eq_false (fun h => c45 (Int.ofNat_lt.mpr h))
                  clear c45
                  by_cases c49 : 0 ≤ (l0_2.length : Int)
                  · rw [if_pos c49] at H
                    have c49b0 := eq_true c49
                    have c49b1 : decide (0 ≤ (l0_2.length : Int)) = true := decide_eq_true c49
                    clear c49
                    by_cases c50 : (l0_2.length : Int) ≤ (t153.length : Int)
                    · rw [if_pos c50] at H
                      have c50b0 := eq_true c50
                      have c50b1 : decide ((l0_2.length : Int) ≤ (t153.length : Int)) = true := decide_eq_true c50
                      clear c50
                      obtain ⟨y171, hy171⟩ : ∃ y_ : List (S44), y_ = (t153.take ((l0_2.length : Int) : Int).toNat) := ⟨_, rfl⟩
                      replace H : ((api_Flight_28.f kj2 y171 l0_2).bind fun t175 => (lookoutlaw50_NetworkValid.j1 kj2 t165 t168 (!t175) a0_0 l0_1 l0_2 t158 t159 t162)) = some r := by first | (rw [hy171]; with_reducible exact H) | (have H2_ := (Option.bind_some _ _).symm.trans H; rw [hy171]; with_reducible exact H2_) | (have H2_ := (Option.bind_some _ _).symm.trans H; with_reducible exact H2_) | with_reducible exact H | (rw [hy171]; exact H) | exact H
                      have Ny171 := aS hy171
                      clear hy171
                      replace H := Option.bind_eq_some_iff.mp H
                      obtain ⟨t175, A510, H⟩ := H
                      replace H : (lookoutlaw50_NetworkValid.j1 kj2 t165 t168 (!t175) a0_0 l0_1 l0_2 t158 t159 t162) = some r := H
                      have A51 := aS A510
                      clear A510
                      have H' := aS H
                      clear H
                      try go_wp2
                      have n0_ : Aside0 (Kd.V (Kd.int .i64) 3 (((w34.setCell ⟨gb169, 0, none⟩ (.int .i64 t158)).setCell ⟨gb169, 1, none⟩ (.slice Ao39 t159.length co39)).setCell ⟨gb169, 2, none⟩ (.slice Ao40 t162.length co40)) w.heap.size (fun k_ => some k_ ≠ (.slice Ao30 t153.length co30 : Value).ownBlock ∧ some k_ ≠ (.slice Ao40 t162.length co40 : Value).ownBlock ∧ some k_ ≠ (v166 : Value).ownBlock ∧ k_ ≠ gb145 ∧ k_ ≠ gb146 ∧ k_ ≠ gb157 ∧ k_ ≠ gb169) (.slice Ao29 t150.length co29) t150) := ⟨by (with_reducible repeat (first | apply vA|apply vN|apply vD)); exact Kd.V_mono (Kd.V_far (p := ⟨gb169, 2, none⟩) (Kd.V_far (p := ⟨gb169, 1, none⟩) (Kd.V_far (p := ⟨gb169, 0, none⟩) (Kd.V_mono HO152.out (fun k_ hk => (⟨hk, hk.2⟩ : _ ∧ k_ ≠ gb169))) (fun _ hk => hk.2) (.int .i64 t158)) (fun _ hk => hk.2) (.slice Ao39 t159.length co39)) (fun _ hk => hk.2) (.slice Ao40 t162.length co40)) (fun _ hk => ⟨hk.1.1.1.1.1, ⟨hk.1.1.1.2, ⟨hk.1.1.2, ⟨hk.1.1.1.1.2.1, ⟨hk.1.1.1.1.2.2.1, ⟨hk.1.1.1.1.2.2.2, hk.1.2⟩⟩⟩⟩⟩⟩)⟩
                      have n1_ : Aside0 (Kd.R k44 44 (((w34.setCell ⟨gb169, 0, none⟩ (.int .i64 t158)).setCell ⟨gb169, 1, none⟩ (.slice Ao39 t159.length co39)).setCell ⟨gb169, 2, none⟩ (.slice Ao40 t162.length co40)) w.heap.size (fun k_ => some k_ ≠ (.slice Ao40 t162.length co40 : Value).ownBlock) (.slice Ao30 t153.length co30) t153) := ⟨by (with_reducible repeat (first | apply rA|apply rN|apply rD)); exact Kd.R_mono (Kd.R_far (p := ⟨gb169, 2, none⟩) (Kd.R_far (p := ⟨gb169, 1, none⟩) (Kd.R_far (p := ⟨gb169, 0, none⟩) (Kd.R_types HO155.out BK169.out (by decide)) (fun _ hk => hk.2) (.int .i64 t158)) (fun _ hk => hk.2) (.slice Ao39 t159.length co39)) (fun _ hk => hk.2) (.slice Ao40 t162.length co40)) (fun _ hk => hk.1.2)⟩
                      have n2_ : Aside0 (Kd.V (Kd.int .i64) 3 (((w34.setCell ⟨gb169, 0, none⟩ (.int .i64 t158)).setCell ⟨gb169, 1, none⟩ (.slice Ao39 t159.length co39)).setCell ⟨gb169, 2, none⟩ (.slice Ao40 t162.length co40)) w.heap.size (fun k_ => some k_ ≠ (.slice Ao30 t153.length co30 : Value).ownBlock ∧ some k_ ≠ (.slice Ao40 t162.length co40 : Value).ownBlock ∧ some k_ ≠ (v166 : Value).ownBlock ∧ k_ ≠ gb145 ∧ k_ ≠ gb146 ∧ k_ ≠ gb157 ∧ k_ ≠ gb169) (.slice Ao39 t159.length co39) t159) := ⟨by (with_reducible repeat (first | apply vA|apply vN|apply vD)); exact Kd.V_mono (Kd.V_far (p := ⟨gb169, 2, none⟩) (Kd.V_far (p := ⟨gb169, 1, none⟩) (Kd.V_far (p := ⟨gb169, 0, none⟩) (Kd.V_mono HO161.out (fun k_ hk => (⟨hk, hk.2⟩ : _ ∧ k_ ≠ gb169))) (fun _ hk => hk.2) (.int .i64 t158)) (fun _ hk => hk.2) (.slice Ao39 t159.length co39)) (fun _ hk => hk.2) (.slice Ao40 t162.length co40)) (fun _ hk => ⟨hk.1.1.2.2.1, ⟨hk.1.1.1, ⟨hk.1.1.2.1, ⟨hk.1.1.2.2.2.1, ⟨hk.1.1.2.2.2.2.1, ⟨hk.1.1.2.2.2.2.2, hk.1.2⟩⟩⟩⟩⟩⟩)⟩
                      have n3_ : Aside0 (Kd.R k44 44 (((w34.setCell ⟨gb169, 0, none⟩ (.int .i64 t158)).setCell ⟨gb169, 1, none⟩ (.slice Ao39 t159.length co39)).setCell ⟨gb169, 2, none⟩ (.slice Ao40 t162.length co40)) w.heap.size (fun k_ => some k_ ≠ (.slice Ao30 t153.length co30 : Value).ownBlock) (.slice Ao40 t162.length co40) t162) := ⟨by (with_reducible repeat (first | apply rA|apply rN|apply rD)); exact Kd.R_mono (Kd.R_far (p := ⟨gb169, 2, none⟩) (Kd.R_far (p := ⟨gb169, 1, none⟩) (Kd.R_far (p := ⟨gb169, 0, none⟩) (Kd.R_types HO164.out BK169.out (by decide)) (fun _ hk => hk.2) (.int .i64 t158)) (fun _ hk => hk.2) (.slice Ao39 t159.length co39)) (fun _ hk => hk.2) (.slice Ao40 t162.length co40)) (fun _ hk => hk.1.2)⟩
                      have n4_ : Aside0 (Kd.R k27 27 (((w34.setCell ⟨gb169, 0, none⟩ (.int .i64 t158)).setCell ⟨gb169, 1, none⟩ (.slice Ao39 t159.length co39)).setCell ⟨gb169, 2, none⟩ (.slice Ao40 t162.length co40)) w.heap.size (fun k_ => k_ ≠ gb146) v166 t165) := ⟨by (with_reducible repeat (first | apply rA|apply rN|apply rD)); exact Kd.R_mono (Kd.R_far (p := ⟨gb169, 2, none⟩) (Kd.R_far (p := ⟨gb169, 1, none⟩) (Kd.R_far (p := ⟨gb169, 0, none⟩) (Kd.R_types HO167.out BK169.out (by decide)) (fun _ hk => hk.2) (.int .i64 t158)) (fun _ hk => hk.2) (.slice Ao39 t159.length co39)) (fun _ hk => hk.2) (.slice Ao40 t162.length co40)) (fun _ hk => hk.1.2)⟩
                      have n5_ : Aside0 ((((w34.setCell ⟨gb169, 0, none⟩ (.int .i64 t158)).setCell ⟨gb169, 1, none⟩ (.slice Ao39 t159.length co39)).setCell ⟨gb169, 2, none⟩ (.slice Ao40 t162.length co40)).heap[gb145]? = some (.cells #[.int .i64 a0_0, .slice A0_1 l0_1.length c0_1, .slice A0_2 l0_2.length c0_2] 25 (0, 0))) := ⟨by (with_reducible repeat (first | refine blk_drewN ?_ _ | refine blk_drew ?_ | refine blk_alloc ?_ _)); refine blk_far ?_ NB145_169.out _; (with_reducible repeat (first | refine blk_drewN ?_ _ | refine blk_drew ?_ | refine blk_alloc ?_ _)); refine blk_far ?_ NB145_169.out _; (with_reducible repeat (first | refine blk_drewN ?_ _ | refine blk_drew ?_ | refine blk_alloc ?_ _)); refine blk_far ?_ NB145_169.out _; (with_reducible repeat (first | refine blk_drewN ?_ _ | refine blk_drew ?_ | refine blk_alloc ?_ _)); exact BK145.out⟩
                      have n6_ : Aside0 ((((w34.setCell ⟨gb169, 0, none⟩ (.int .i64 t158)).setCell ⟨gb169, 1, none⟩ (.slice Ao39 t159.length co39)).setCell ⟨gb169, 2, none⟩ (.slice Ao40 t162.length co40)).heap[gb146]? = some (.cells #[.int .i64 a1_0, .int .i64 a1_1, .string a1_2] 27 (0, 0))) := ⟨by (with_reducible repeat (first | refine blk_drewN ?_ _ | refine blk_drew ?_ | refine blk_alloc ?_ _)); refine blk_far ?_ NB146_169.out _; (with_reducible repeat (first | refine blk_drewN ?_ _ | refine blk_drew ?_ | refine blk_alloc ?_ _)); refine blk_far ?_ NB146_169.out _; (with_reducible repeat (first | refine blk_drewN ?_ _ | refine blk_drew ?_ | refine blk_alloc ?_ _)); refine blk_far ?_ NB146_169.out _; (with_reducible repeat (first | refine blk_drewN ?_ _ | refine blk_drew ?_ | refine blk_alloc ?_ _)); exact BK146.out⟩
                      have n7_ : Aside0 ((((w34.setCell ⟨gb169, 0, none⟩ (.int .i64 t158)).setCell ⟨gb169, 1, none⟩ (.slice Ao39 t159.length co39)).setCell ⟨gb169, 2, none⟩ (.slice Ao40 t162.length co40)).heap[gb157]? = some (.cells #[.int .i64 t149, .slice Ao29 t150.length co29, .slice Ao30 t153.length co30] 25 (0, 0))) := ⟨by (with_reducible repeat (first | refine blk_drewN ?_ _ | refine blk_drew ?_ | refine blk_alloc ?_ _)); refine blk_far ?_ NB157_169.out _; (with_reducible repeat (first | refine blk_drewN ?_ _ | refine blk_drew ?_ | refine blk_alloc ?_ _)); refine blk_far ?_ NB157_169.out _; (with_reducible repeat (first | refine blk_drewN ?_ _ | refine blk_drew ?_ | refine blk_alloc ?_ _)); refine blk_far ?_ NB157_169.out _; (with_reducible repeat (first | refine blk_drewN ?_ _ | refine blk_drew ?_ | refine blk_alloc ?_ _)); exact BK157.out⟩
                      have n8_ : Aside0 ((((w34.setCell ⟨gb169, 0, none⟩ (.int .i64 t158)).setCell ⟨gb169, 1, none⟩ (.slice Ao39 t159.length co39)).setCell ⟨gb169, 2, none⟩ (.slice Ao40 t162.length co40)).heap[gb169]? = some (.cells #[.int .i64 t158, .slice Ao39 t159.length co39, .slice Ao40 t162.length co40] 25 (0, 0))) := ⟨by (with_reducible repeat (first | refine blk_drewN ?_ _ | refine blk_drew ?_ | refine blk_alloc ?_ _)); refine blk_put (cs := #[.int .i64 t158, .slice Ao39 t159.length co39, .slice none 0 0]) ?_ 2 _ rfl; (with_reducible repeat (first | refine blk_drewN ?_ _ | refine blk_drew ?_ | refine blk_alloc ?_ _)); refine blk_put (cs := #[.int .i64 t158, .slice none 0 0, .slice none 0 0]) ?_ 1 _ rfl; (with_reducible repeat (first | refine blk_drewN ?_ _ | refine blk_drew ?_ | refine blk_alloc ?_ _)); refine blk_put (cs := #[.int .i64 0, .slice none 0 0, .slice none 0 0]) ?_ 0 _ rfl; (with_reducible repeat (first | refine blk_drewN ?_ _ | refine blk_drew ?_ | refine blk_alloc ?_ _)); exact BK169.out⟩
                      have n9_ : Aside0 (Below w.heap.size w (((w34.setCell ⟨gb169, 0, none⟩ (.int .i64 t158)).setCell ⟨gb169, 1, none⟩ (.slice Ao39 t159.length co39)).setCell ⟨gb169, 2, none⟩ (.slice Ao40 t162.length co40))) := ⟨by repeat (first | (with_reducible first | exact HB.out | apply bA|apply bN|apply bD | refine below_set ?_ GE145.out | refine below_set ?_ GE146.out | refine below_set ?_ GE157.out | refine below_set ?_ GE169.out) | exact HB.out)⟩
                      (try clear HO152)
                      (try clear HO155)
                      (try clear HO161)
                      (try clear HO164)
                      (try clear HO167)
                      (try clear BK145)
                      (try clear BK146)
                      (try clear BK157)
                      (try clear BK169)
                      (try clear HB)
                      generalize (((w34.setCell ⟨gb169, 0, none⟩ (.int .i64 t158)).setCell ⟨gb169, 1, none⟩ (.slice Ao39 t159.length co39)).setCell ⟨gb169, 2, none⟩ (.slice Ao40 t162.length co40)) = w52 at n0_ n1_ n2_ n3_ n4_ n5_ n6_ n7_ n8_ n9_ ⊢
                      have HO152 := n0_
                      have HO155 := n1_
                      have HO161 := n2_
                      have HO164 := n3_
                      have HO167 := n4_
                      have BK145 := n5_
                      have BK146 := n6_
                      have BK157 := n7_
                      have BK169 := n8_
                      have HB := n9_
                      clear n0_ n1_ n2_ n3_ n4_ n5_ n6_ n7_ n8_ n9_
                      have n0_ := aS (Kd.V_drew HO152.out)
                      have n1_ := aS (Kd.R_drew HO155.out)
                      have n2_ := aS (Kd.V_drew HO161.out)
                      have n3_ := aS (Kd.R_drew HO164.out)
                      have n4_ := aS (Kd.R_drew HO167.out)
                      have n5_ := aS (blk_drew BK145.out)
                      have n6_ := aS (blk_drew BK146.out)
                      have n7_ := aS (blk_drew BK157.out)
                      have n8_ := aS (blk_drew BK169.out)
                      have n9_ := aS (below_drew1 HB.out)
                      clear HO152
                      clear HO155
                      clear HO161
                      clear HO164
                      clear HO167
                      clear BK145
                      clear BK146
                      clear BK157
                      clear BK169
                      clear HB
                      have HO152 := n0_
                      have HO155 := n1_
                      have HO161 := n2_
                      have HO164 := n3_
                      have HO167 := n4_
                      have BK145 := n5_
                      have BK146 := n6_
                      have BK157 := n7_
                      have BK169 := n8_
                      have HB := n9_
                      clear n0_ n1_ n2_ n3_ n4_ n5_ n6_ n7_ n8_ n9_
                      refine start_ (n := 35) (S := fun w' => w'.cell? ⟨gb157, 0, none⟩ = some (.int .i64 t149) ∧ w'.cell? ⟨gb157, 1, none⟩ = some (.slice Ao29 t150.length co29) ∧ w'.cell? ⟨gb157, 2, none⟩ = some (.slice Ao30 t153.length co30) ∧ w'.cell? ⟨gb145, 0, none⟩ = some (.int .i64 a0_0) ∧ w'.cell? ⟨gb145, 1, none⟩ = some (.slice A0_1 l0_1.length c0_1) ∧ w'.cell? ⟨gb145, 2, none⟩ = some (.slice A0_2 l0_2.length c0_2)) (ds := []) #[false, false, false, false, false, false, false, false, false, false, false, false, false, false, false, false, false, false, false, false, false, false, false, false, false, false, false, false, false, false, false, false, false, false, false] (by kernel_rfl) rfl rfl ⟨(blk_cell BK157.out 0).trans rfl, (blk_cell BK157.out 1).trans rfl, (blk_cell BK157.out 2).trans rfl, (blk_cell BK145.out 0).trans rfl, (blk_cell BK145.out 1).trans rfl, (blk_cell BK145.out 2).trans rfl⟩ (fun hHeld => ?_); refine with_tabW lookoutlaw50_NetworkValid.tab5 lookoutlaw50_NetworkValid.bits5 (fun HT_ HW_ => ?_)
                      generalize w52.drew = w53 at HO152 HO155 HO161 HO164 HO167 BK145 BK146 BK157 BK169 HB hHeld ⊢
                      refine pure_ (i := 0) (N := some 32) (v := ?_) (a' := ?_) #[true, false, false, false, false, false, false, false, false, false, false, false, false, false, false, false, false, false, false, false, false, false, false, false, false, false, false, false, false, false, false, false, false, false, false] rfl rfl (any_of HT_.out (by kernel_rfl)) (fun _ _ _ h => h) (Or.inl ⟨by rfl, ?_⟩) ?_ ?_
                      rotate_left
                      · intro w'
                        go_simp
                        with_reducible rfl
                      rotate_left
                      · simp only [Act.put, List.setIfInBounds_toArray, List.set_cons_zero, List.set_cons_succ, i64_w, i32_w]
                        rfl
                      refine pure_ (i := 1) (N := some 33) (v := ?_) (a' := ?_) #[true, true, false, false, false, false, false, false, false, false, false, false, false, false, false, false, false, false, false, false, false, false, false, false, false, false, false, false, false, false, false, false, false, false, false] rfl rfl (any_of HT_.out (by kernel_rfl)) (fun _ _ _ h => h) (Or.inl ⟨by rfl, ?_⟩) ?_ ?_
                      rotate_left
                      · intro w'
                        go_simp
                        with_reducible rfl
                      rotate_left
                      · simp only [Act.put, List.setIfInBounds_toArray, List.set_cons_zero, List.set_cons_succ, i64_w, i32_w]
                        rfl
                      refine pure_ (i := 2) (N := some 34) (v := ?_) (a' := ?_) #[true, true, true, false, false, false, false, false, false, false, false, false, false, false, false, false, false, false, false, false, false, false, false, false, false, false, false, false, false, false, false, false, false, false, false] rfl rfl (any_of HT_.out (by kernel_rfl)) (fun _ _ _ h => h) (Or.inl ⟨by rfl, ?_⟩) ?_ ?_
                      rotate_left
                      · intro w'
                        go_simp
                        with_reducible rfl
                      rotate_left
                      · simp only [Act.put, List.setIfInBounds_toArray, List.set_cons_zero, List.set_cons_succ, i64_w, i32_w]
                        rfl
                      refine take_ (i := 3) (N := some 35) (v := ?_) (a' := ?_) #[true, true, true, true, false, false, false, false, false, false, false, false, false, false, false, false, false, false, false, false, false, false, false, false, false, false, false, false, false, false, false, false, false, false, false] rfl rfl (take_ofW HT_.out HW_.out (by kernel_rfl)) (fun _ _ _ h => h) (Or.inl ⟨by rfl, ?_⟩) hHeld ?_ ?_
                      rotate_left
                      · rintro w' ⟨s0, s1, s2, s3, s4, s5⟩
                        go_simp
                        with_reducible rfl
                      rotate_left
                      · simp only [Act.put, List.setIfInBounds_toArray, List.set_cons_zero, List.set_cons_succ, i64_w, i32_w]
                        rfl
                      refine one_ (i := 4) (N := some 36) #[true, true, true, true, true, false, false, false, false, false, false, false, false, false, false, false, false, false, false, false, false, false, false, false, false, false, false, false, false, false, false, false, false, false, false] rfl rfl (one_of HT_.out (by kernel_rfl)) (by decide) (fun K hK => ?_)
                      refine goes_ Try.func15 (by kernel_rfl) rfl #[.agg #[.int .i64 t149, .slice Ao29 t150.length co29, .slice Ao30 t153.length co30]] (by rfl) rfl rfl (by (try simp only [List.map_toArray, List.map_cons, List.map_nil]); first | done | rfl | (simp only [List.length_drop, List.length_take]; rfl)) ?_
                      with_reducible refine (network_Check.calls kj2 t149 _ _ t150 _ _ t153 t170 _ ?side1 ?side2 ?side3 ?side4 A42.out).mono ?_
                      (case side1 => repeat (first | exact (Kd.V_reads' HO152.out).2.2 | (with_reducible refine Kd.C_alloc ?_ _) | (with_reducible refine Kd.C_drewN ?_ _) | (with_reducible refine Kd.C_drew ?_)))
                      (case side2 => exact (Kd.V_reads' HO152.out).2.1)
                      (case side3 => repeat (first | exact (Kd.R_reads' HO155.out).2.2 | (with_reducible refine Kd.C_alloc ?_ _) | (with_reducible refine Kd.C_drewN ?_ _) | (with_reducible refine Kd.C_drew ?_)))
                      (case side4 => exact (Kd.R_reads' HO155.out).2.1)
                      rintro e w54 ⟨rfl, hb⟩
                      refine ⟨_, rfl, ?_⟩
                      have n0_ := aS (Kd.V_below (by (with_reducible repeat (first | apply vA|apply vN|apply vD)); exact HO152.out) hb)
                      have n1_ := aS (Kd.R_below (by (with_reducible repeat (first | apply rA|apply rN|apply rD)); exact HO155.out) hb)
                      have n2_ := aS (Kd.V_below (by (with_reducible repeat (first | apply vA|apply vN|apply vD)); exact HO161.out) hb)
                      have n3_ := aS (Kd.R_below (by (with_reducible repeat (first | apply rA|apply rN|apply rD)); exact HO164.out) hb)
                      have n4_ := aS (Kd.R_below (by (with_reducible repeat (first | apply rA|apply rN|apply rD)); exact HO167.out) hb)
                      have n5_ := aS (blk_below (g := gb145) (o := .cells #[.int .i64 a0_0, .slice A0_1 l0_1.length c0_1, .slice A0_2 l0_2.length c0_2] 25 (0, 0)) (by (with_reducible repeat (first | refine blk_drewN ?_ _ | refine blk_drew ?_ | refine blk_alloc ?_ _)); exact BK145.out) hb)
                      have n6_ := aS (blk_below (g := gb146) (o := .cells #[.int .i64 a1_0, .int .i64 a1_1, .string a1_2] 27 (0, 0)) (by (with_reducible repeat (first | refine blk_drewN ?_ _ | refine blk_drew ?_ | refine blk_alloc ?_ _)); exact BK146.out) hb)
                      have n7_ := aS (blk_below (g := gb157) (o := .cells #[.int .i64 t149, .slice Ao29 t150.length co29, .slice Ao30 t153.length co30] 25 (0, 0)) (by (with_reducible repeat (first | refine blk_drewN ?_ _ | refine blk_drew ?_ | refine blk_alloc ?_ _)); exact BK157.out) hb)
                      have n8_ := aS (blk_below (g := gb169) (o := .cells #[.int .i64 t158, .slice Ao39 t159.length co39, .slice Ao40 t162.length co40] 25 (0, 0)) (by (with_reducible repeat (first | refine blk_drewN ?_ _ | refine blk_drew ?_ | refine blk_alloc ?_ _)); exact BK169.out) hb)
                      have n9_ := aS (below_step (by repeat (first | (with_reducible first | exact HB.out | apply bA|apply bN|apply bD | refine below_set ?_ GE145.out | refine below_set ?_ GE146.out | refine below_set ?_ GE157.out | refine below_set ?_ GE169.out) | exact HB.out)) hb)
                      clear HO152
                      clear HO155
                      clear HO161
                      clear HO164
                      clear HO167
                      clear BK145
                      clear BK146
                      clear BK157
                      clear BK169
                      clear HB
                      have HO152 := n0_
                      have HO155 := n1_
                      have HO161 := n2_
                      have HO164 := n3_
                      have HO167 := n4_
                      have BK145 := n5_
                      have BK146 := n6_
                      have BK157 := n7_
                      have BK169 := n8_
                      have HB := n9_
                      clear n0_ n1_ n2_ n3_ n4_ n5_ n6_ n7_ n8_ n9_
                      (try clear hb)
                      (try clear hb2)
                      (try clear hk)
                      (try clear hi)
                      have q55 : ((l0_2.length : Int) : Int) ≤ ((t153.length : Int) : Int) := of_decide_eq_true (by first | (with_reducible assumption) | assumption)
                      obtain ⟨i055, hi055, _, hsz55, _⟩ := info_parts info44
                      have hroom55 : t153.length ≤ co30 := (Kd.R_reads' HO155.out).2.1
                      have hC55 : Kd.C k44 _ Ao30 t153.length t153 := (Kd.R_reads' HO155.out).2.2
                      have hcut55 := cut_to (P := Try.prog) 23 44 .i64 Try.underlying23 hi055 Ao30 t153.length co30 (l0_2.length : Int) (of_decide_eq_true (by first | (with_reducible assumption) | assumption)) q55 hroom55
                      have hr55 := Kd.C_take (m := ((l0_2.length : Int) : Int).toNat) hC55 (by omega)
                      have hy55 : y171.length = ((l0_2.length : Int) : Int).toNat := (by rw [Ny171.out, List.length_take]; omega)
                      rw [← Ny171.out] at hr55
                      rw [← hy55] at hcut55
                      have HR174 := aS hr55
                      have HC174 := aS (show y171.length ≤ co30 from by omega)
                      clear hr55 hC55 hroom55 hi055 hsz55
                      have KY55 := aS hy55
                      clear hy55
                      have KL55 := aS (show ((l0_2.length : Int) : Int).toNat ≤ t153.length from by omega)
                      replace q55 := eq_true q55
                      refine hK.out _ _ ⟨(blk_cell BK157.out 0).trans rfl, (blk_cell BK157.out 1).trans rfl, (blk_cell BK157.out 2).trans rfl, (blk_cell BK145.out 0).trans rfl, (blk_cell BK145.out 1).trans rfl, (blk_cell BK145.out 2).trans rfl⟩ (fun hHeld => ?_)
                      clear hK K
                      refine norm_ (a' := ?_) ?_ ?_
                      rotate_left
                      · show Act.put _ (some 36) _ = _
                        simp only [Act.put, List.setIfInBounds_toArray, List.set_cons_zero, List.set_cons_succ, i64_w, i32_w]
                        rfl
                      refine pure_ (i := 5) (N := some 37) (v := ?_) (a' := ?_) #[true, true, true, true, true, true, false, false, false, false, false, false, false, false, false, false, false, false, false, false, false, false, false, false, false, false, false, false, false, false, false, false, false, false, false] rfl rfl (any_of HT_.out (by kernel_rfl)) (fun _ _ _ h => h) (Or.inl ⟨by rfl, ?_⟩) ?_ ?_
                      rotate_left
                      · intro w'
                        go_simp
                        with_reducible rfl
                      rotate_left
                      · simp only [Act.put, List.setIfInBounds_toArray, List.set_cons_zero, List.set_cons_succ, i64_w, i32_w]
                        rfl
                      refine pure_ (i := 6) (N := some 38) (v := ?_) (a' := ?_) #[true, true, true, true, true, true, true, false, false, false, false, false, false, false, false, false, false, false, false, false, false, false, false, false, false, false, false, false, false, false, false, false, false, false, false] rfl rfl (any_of HT_.out (by kernel_rfl)) (fun _ _ _ h => h) (Or.inl ⟨by rfl, ?_⟩) ?_ ?_
                      rotate_left
                      · intro w'
                        go_simp
                        with_reducible rfl
                      rotate_left
                      · simp only [Act.put, List.setIfInBounds_toArray, List.set_cons_zero, List.set_cons_succ, i64_w, i32_w]
                        rfl
                      refine pure_ (i := 7) (N := some 39) (v := ?_) (a' := ?_) #[true, true, true, true, true, true, true, true, false, false, false, false, false, false, false, false, false, false, false, false, false, false, false, false, false, false, false, false, false, false, false, false, false, false, false] rfl rfl (any_of HT_.out (by kernel_rfl)) (fun _ _ _ h => h) (Or.inl ⟨by rfl, ?_⟩) ?_ ?_
                      rotate_left
                      · intro w'
                        go_simp
                        with_reducible rfl
                      rotate_left
                      · simp only [Act.put, List.setIfInBounds_toArray, List.set_cons_zero, List.set_cons_succ, i64_w, i32_w]
                        rfl
                      refine pure_ (i := 9) (N := some 41) (v := ?_) (a' := ?_) #[true, true, true, true, true, true, true, true, false, true, false, false, false, false, false, false, false, false, false, false, false, false, false, false, false, false, false, false, false, false, false, false, false, false, false] rfl rfl (any_of HT_.out (by kernel_rfl)) (fun _ _ _ h => h) (Or.inl ⟨by rfl, ?_⟩) ?_ ?_
                      rotate_left
                      · intro w'
                        go_simp
                        with_reducible rfl
                      rotate_left
                      · simp only [Act.put, List.setIfInBounds_toArray, List.set_cons_zero, List.set_cons_succ, i64_w, i32_w]
                        rfl
                      refine take_ (i := 8) (N := some 40) (v := ?_) (a' := ?_) #[true, true, true, true, true, true, true, true, true, true, false, false, false, false, false, false, false, false, false, false, false, false, false, false, false, false, false, false, false, false, false, false, false, false, false] rfl rfl (take_ofW HT_.out HW_.out (by kernel_rfl)) (fun _ _ _ h => h) (Or.inl ⟨by rfl, ?_⟩) hHeld ?_ ?_
                      rotate_left
                      · rintro w' ⟨s0, s1, s2, s3, s4, s5⟩
                        go_simp
                        with_reducible rfl
                      rotate_left
                      · simp only [Act.put, List.setIfInBounds_toArray, List.set_cons_zero, List.set_cons_succ, i64_w, i32_w]
                        rfl
                      refine take_ (i := 10) (N := some 42) (v := ?_) (a' := ?_) #[true, true, true, true, true, true, true, true, true, true, true, false, false, false, false, false, false, false, false, false, false, false, false, false, false, false, false, false, false, false, false, false, false, false, false] rfl rfl (take_ofW HT_.out HW_.out (by kernel_rfl)) (fun _ _ _ h => h) (Or.inl ⟨by rfl, ?_⟩) hHeld ?_ ?_
                      rotate_left
                      · rintro w' ⟨s0, s1, s2, s3, s4, s5⟩
                        go_simp
                        with_reducible rfl
                      rotate_left
                      · simp only [Act.put, List.setIfInBounds_toArray, List.set_cons_zero, List.set_cons_succ, i64_w, i32_w]
                        rfl
                      refine pure_ (i := 11) (N := some 43) (v := ?_) (a' := ?_) #[true, true, true, true, true, true, true, true, true, true, true, true, false, false, false, false, false, false, false, false, false, false, false, false, false, false, false, false, false, false, false, false, false, false, false] rfl rfl (any_of HT_.out (by kernel_rfl)) (fun _ _ _ h => h) (Or.inl ⟨by rfl, ?_⟩) ?_ ?_
                      rotate_left
                      · intro w'
                        go_simp
                        with_reducible rfl
                      rotate_left
                      · simp only [Act.put, List.setIfInBounds_toArray, List.set_cons_zero, List.set_cons_succ, i64_w, i32_w]
                        rfl
                      refine pure_ (i := 12) (N := some 44) (v := ?_) (a' := ?_) #[true, true, true, true, true, true, true, true, true, true, true, true, true, false, false, false, false, false, false, false, false, false, false, false, false, false, false, false, false, false, false, false, false, false, false] rfl rfl (any_of HT_.out (by kernel_rfl)) (fun _ _ _ h => h) (Or.inl ⟨by rfl, ?_⟩) ?_ ?_
                      rotate_left
                      · intro w'
                        go_simp
                        with_reducible rfl
                      rotate_left
                      · simp only [Act.put, List.setIfInBounds_toArray, List.set_cons_zero, List.set_cons_succ, i64_w, i32_w]
                        rfl
                      refine pure_ (i := 13) (N := some 45) (v := ?_) (a' := ?_) #[true, true, true, true, true, true, true, true, true, true, true, true, true, true, false, false, false, false, false, false, false, false, false, false, false, false, false, false, false, false, false, false, false, false, false] rfl rfl (any_of HT_.out (by kernel_rfl)) (fun _ _ _ h => h) (Or.inl ⟨by rfl, ?_⟩) ?_ ?_
                      rotate_left
                      · intro w'
                        go_simp
                        with_reducible rfl
                      rotate_left
                      · simp only [Act.put, List.setIfInBounds_toArray, List.set_cons_zero, List.set_cons_succ, i64_w, i32_w]
                        rfl
                      refine pure_ (i := 14) (N := some 46) (v := ?_) (a' := ?_) #[true, true, true, true, true, true, true, true, true, true, true, true, true, true, true, false, false, false, false, false, false, false, false, false, false, false, false, false, false, false, false, false, false, false, false] rfl rfl (any_of HT_.out (by kernel_rfl)) (fun _ _ _ h => h) (Or.inl ⟨by rfl, ?_⟩) ?_ ?_
                      rotate_left
                      · intro w'
                        go_simp
                        with_reducible rfl
                      rotate_left
                      · simp only [Act.put, List.setIfInBounds_toArray, List.set_cons_zero, List.set_cons_succ, i64_w, i32_w]
                        rfl
                      refine pure_ (i := 17) (N := some 49) (v := ?_) (a' := ?_) #[true, true, true, true, true, true, true, true, true, true, true, true, true, true, true, false, false, true, false, false, false, false, false, false, false, false, false, false, false, false, false, false, false, false, false] rfl rfl (any_of HT_.out (by kernel_rfl)) (fun _ _ _ h => h) (Or.inl ⟨by rfl, ?_⟩) ?_ ?_
                      rotate_left
                      · intro w'
                        go_simp
                        with_reducible rfl
                      rotate_left
                      · simp only [Act.put, List.setIfInBounds_toArray, List.set_cons_zero, List.set_cons_succ, i64_w, i32_w]
                        rfl
                      refine take_ (i := 15) (N := some 47) (v := ?_) (a' := ?_) #[true, true, true, true, true, true, true, true, true, true, true, true, true, true, true, true, false, true, false, false, false, false, false, false, false, false, false, false, false, false, false, false, false, false, false] rfl rfl (take_ofW HT_.out HW_.out (by kernel_rfl)) (fun _ _ _ h => h) (Or.inl ⟨by rfl, ?_⟩) hHeld ?_ ?_
                      rotate_left
                      · rintro w' ⟨s0, s1, s2, s3, s4, s5⟩
                        go_simp
                        with_reducible rfl
                      rotate_left
                      · simp only [Act.put, List.setIfInBounds_toArray, List.set_cons_zero, List.set_cons_succ, i64_w, i32_w]
                        rfl
                      refine pure_ (i := 16) (N := some 48) (v := ?_) (a' := ?_) #[true, true, true, true, true, true, true, true, true, true, true, true, true, true, true, true, true, true, false, false, false, false, false, false, false, false, false, false, false, false, false, false, false, false, false] rfl rfl (any_of HT_.out (by kernel_rfl)) (fun _ _ _ h => h) (Or.inl ⟨by rfl, ?_⟩) ?_ ?_
                      rotate_left
                      · intro w'
                        go_simp
                        with_reducible rfl
                      rotate_left
                      · simp only [Act.put, List.setIfInBounds_toArray, List.set_cons_zero, List.set_cons_succ, i64_w, i32_w]
                        rfl
                      refine take_ (i := 18) (N := some 50) (v := ?_) (a' := ?_) #[true, true, true, true, true, true, true, true, true, true, true, true, true, true, true, true, true, true, true, false, false, false, false, false, false, false, false, false, false, false, false, false, false, false, false] rfl rfl (take_ofW HT_.out HW_.out (by kernel_rfl)) (fun _ _ _ h => h) (Or.inl ⟨by rfl, ?_⟩) hHeld ?_ ?_
                      rotate_left
                      · rintro w' ⟨s0, s1, s2, s3, s4, s5⟩
                        go_simp
                        with_reducible rfl
                      rotate_left
                      · simp only [Act.put, List.setIfInBounds_toArray, List.set_cons_zero, List.set_cons_succ, i64_w, i32_w]
                        rfl
                      refine pure_ (i := 19) (N := some 51) (v := ?_) (a' := ?_) #[true, true, true, true, true, true, true, true, true, true, true, true, true, true, true, true, true, true, true, true, false, false, false, false, false, false, false, false, false, false, false, false, false, false, false] rfl rfl (any_of HT_.out (by kernel_rfl)) (fun _ _ _ h => h) (Or.inl ⟨by rfl, ?_⟩) ?_ ?_
                      rotate_left
                      · intro w'
                        go_simp
                        with_reducible rfl
                      rotate_left
                      · simp only [Act.put, List.setIfInBounds_toArray, List.set_cons_zero, List.set_cons_succ, i64_w, i32_w]
                        rfl
                      refine pure_ (i := 20) (N := some 52) (v := ?_) (a' := ?_) #[true, true, true, true, true, true, true, true, true, true, true, true, true, true, true, true, true, true, true, true, true, false, false, false, false, false, false, false, false, false, false, false, false, false, false] rfl rfl (any_of HT_.out (by kernel_rfl)) (fun _ _ _ h => h) (Or.inl ⟨by rfl, ?_⟩) ?_ ?_
                      rotate_left
                      · intro w'
                        go_simp
                        with_reducible rfl
                      rotate_left
                      · simp only [Act.put, List.setIfInBounds_toArray, List.set_cons_zero, List.set_cons_succ, i64_w, i32_w]
                        rfl
                      refine pure_ (i := 21) (N := some 53) (v := ?_) (a' := ?_) #[true, true, true, true, true, true, true, true, true, true, true, true, true, true, true, true, true, true, true, true, true, true, false, false, false, false, false, false, false, false, false, false, false, false, false] rfl rfl (any_of HT_.out (by kernel_rfl)) (fun _ _ _ h => h) (Or.inl ⟨by rfl, ?_⟩) ?_ ?_
                      rotate_left
                      · intro w'
                        go_simp
                        with_reducible rfl
                      rotate_left
                      · simp only [Act.put, List.setIfInBounds_toArray, List.set_cons_zero, List.set_cons_succ, i64_w, i32_w]
                        rfl
                      refine pure_ (i := 22) (N := some 54) (v := ?_) (a' := ?_) #[true, true, true, true, true, true, true, true, true, true, true, true, true, true, true, true, true, true, true, true, true, true, true, false, false, false, false, false, false, false, false, false, false, false, false] rfl rfl (any_of HT_.out (by kernel_rfl)) (fun _ _ _ h => h) (Or.inl ⟨by rfl, ?_⟩) ?_ ?_
                      rotate_left
                      · intro w'
                        go_simp
                        with_reducible rfl
                      rotate_left
                      · simp only [Act.put, List.setIfInBounds_toArray, List.set_cons_zero, List.set_cons_succ, i64_w, i32_w]
                        rfl
                      refine pure_ (i := 23) (N := some 55) (v := ?_) (a' := ?_) #[true, true, true, true, true, true, true, true, true, true, true, true, true, true, true, true, true, true, true, true, true, true, true, true, false, false, false, false, false, false, false, false, false, false, false] rfl rfl (any_of HT_.out (by kernel_rfl)) (fun _ _ _ h => h) (Or.inl ⟨by rfl, ?_⟩) ?_ ?_
                      rotate_left
                      · intro w'
                        go_simp
                        with_reducible rfl
                      rotate_left
                      · simp only [Act.put, List.setIfInBounds_toArray, List.set_cons_zero, List.set_cons_succ, i64_w, i32_w]
                        rfl
                      refine pure_ (i := 25) (N := some 57) (v := ?_) (a' := ?_) #[true, true, true, true, true, true, true, true, true, true, true, true, true, true, true, true, true, true, true, true, true, true, true, true, false, true, false, false, false, false, false, false, false, false, false] rfl rfl (any_of HT_.out (by kernel_rfl)) (fun _ _ _ h => h) (Or.inl ⟨by rfl, ?_⟩) ?_ ?_
                      rotate_left
                      · intro w'
                        go_simp
                        with_reducible rfl
                      rotate_left
                      · simp only [Act.put, List.setIfInBounds_toArray, List.set_cons_zero, List.set_cons_succ, i64_w, i32_w]
                        rfl
                      refine pure_ (i := 29) (N := some 61) (v := ?_) (a' := ?_) #[true, true, true, true, true, true, true, true, true, true, true, true, true, true, true, true, true, true, true, true, true, true, true, true, false, true, false, false, false, true, false, false, false, false, false] rfl rfl (any_of HT_.out (by kernel_rfl)) (fun _ _ _ h => h) (Or.inl ⟨by rfl, ?_⟩) ?_ ?_
                      rotate_left
                      · intro w'
                        go_simp
                        with_reducible rfl
                      rotate_left
                      · simp only [Act.put, List.setIfInBounds_toArray, List.set_cons_zero, List.set_cons_succ, i64_w, i32_w]
                        rfl
                      refine take_ (i := 24) (N := some 56) (v := ?_) (a' := ?_) #[true, true, true, true, true, true, true, true, true, true, true, true, true, true, true, true, true, true, true, true, true, true, true, true, true, true, false, false, false, true, false, false, false, false, false] rfl rfl (take_ofW HT_.out HW_.out (by kernel_rfl)) (fun _ _ _ h => h) (Or.inl ⟨by rfl, ?_⟩) hHeld ?_ ?_
                      rotate_left
                      · rintro w' ⟨s0, s1, s2, s3, s4, s5⟩
                        go_simp
                        with_reducible rfl
                      rotate_left
                      · simp only [Act.put, List.setIfInBounds_toArray, List.set_cons_zero, List.set_cons_succ, i64_w, i32_w]
                        rfl
                      refine take_ (i := 26) (N := some 58) (v := ?_) (a' := ?_) #[true, true, true, true, true, true, true, true, true, true, true, true, true, true, true, true, true, true, true, true, true, true, true, true, true, true, true, false, false, true, false, false, false, false, false] rfl rfl (take_ofW HT_.out HW_.out (by kernel_rfl)) (fun _ _ _ h => h) (Or.inl ⟨by rfl, ?_⟩) hHeld ?_ ?_
                      rotate_left
                      · rintro w' ⟨s0, s1, s2, s3, s4, s5⟩
                        go_simp
                        with_reducible rfl
                      rotate_left
                      · simp only [Act.put, List.setIfInBounds_toArray, List.set_cons_zero, List.set_cons_succ, i64_w, i32_w]
                        rfl
                      refine pure_ (i := 27) (N := some 59) (v := ?_) (a' := ?_) #[true, true, true, true, true, true, true, true, true, true, true, true, true, true, true, true, true, true, true, true, true, true, true, true, true, true, true, true, false, true, false, false, false, false, false] rfl rfl (any_of HT_.out (by kernel_rfl)) (fun _ _ _ h => h) (Or.inl ⟨by rfl, ?_⟩) ?_ ?_
                      rotate_left
                      · intro w'
                        go_simp
                        with_reducible rfl
                      rotate_left
                      · simp only [Act.put, List.setIfInBounds_toArray, List.set_cons_zero, List.set_cons_succ, i64_w, i32_w]
                        rfl
                      refine pure_ (i := 28) (N := some 60) (v := ?_) (a' := ?_) #[true, true, true, true, true, true, true, true, true, true, true, true, true, true, true, true, true, true, true, true, true, true, true, true, true, true, true, true, true, true, false, false, false, false, false] rfl rfl (any_of HT_.out (by kernel_rfl)) (fun _ _ _ h => h) (Or.inl ⟨by rfl, ?_⟩) ?_ ?_
                      rotate_left
                      · intro w'
                        go_simp
                        with_reducible rfl
                      rotate_left
                      · simp only [Act.put, List.setIfInBounds_toArray, List.set_cons_zero, List.set_cons_succ, i64_w, i32_w]
                        rfl
                      refine take_ (i := 30) (N := some 62) (v := ?_) (a' := ?_) #[true, true, true, true, true, true, true, true, true, true, true, true, true, true, true, true, true, true, true, true, true, true, true, true, true, true, true, true, true, true, true, false, false, false, false] rfl rfl (take_ofW HT_.out HW_.out (by kernel_rfl)) (fun _ _ _ h => h) (Or.inl ⟨by rfl, ?_⟩) hHeld ?_ ?_
                      rotate_left
                      · rintro w' ⟨s0, s1, s2, s3, s4, s5⟩
                        go_simp
                        with_reducible rfl
                      rotate_left
                      · simp only [Act.put, List.setIfInBounds_toArray, List.set_cons_zero, List.set_cons_succ, i64_w, i32_w]
                        rfl
                      refine one_ (i := 31) (N := some 63) #[true, true, true, true, true, true, true, true, true, true, true, true, true, true, true, true, true, true, true, true, true, true, true, true, true, true, true, true, true, true, true, true, false, false, false] rfl rfl (one_of HT_.out (by kernel_rfl)) (by decide) (fun K hK => ?_)
                      refine goes_ Try.func28 (by kernel_rfl) rfl #[.slice Ao30 y171.length co30, .slice A0_2 l0_2.length c0_2] (by rfl) rfl rfl (by (try simp only [List.map_toArray, List.map_cons, List.map_nil]); first | done | rfl | (simp only [List.length_drop, List.length_take]; rfl)) ?_
                      with_reducible refine (api_Flight_28.calls kj2 _ _ y171 _ _ l0_2 t175 _ ?side1 ?side2 ?side3 ?side4 A51.out).mono ?_
                      (case side1 => repeat (first | exact (by repeat (first | (with_reducible exact HR174.out) | (with_reducible refine Kd.C_alloc ?_ _) | (with_reducible refine Kd.C_drewN ?_ _) | (with_reducible refine Kd.C_drew ?_) | exact HR174.out)) | (with_reducible refine Kd.C_alloc ?_ _) | (with_reducible refine Kd.C_drewN ?_ _) | (with_reducible refine Kd.C_drew ?_)))
                      (case side2 => exact HC174.out)
                      (case side3 => repeat (first | exact (Kd.C_below HR0_2.out HB.out) | (with_reducible refine Kd.C_alloc ?_ _) | (with_reducible refine Kd.C_drewN ?_ _) | (with_reducible refine Kd.C_drew ?_)))
                      (case side4 => exact HC0_2.out)
                      rintro e w' ⟨rfl, ⟨nd, rfl⟩⟩
                      refine ⟨_, rfl, ?_⟩
                      refine hK.out _ _ ⟨(blk_cell BK157.out 0).trans rfl, (blk_cell BK157.out 1).trans rfl, (blk_cell BK157.out 2).trans rfl, (blk_cell BK145.out 0).trans rfl, (blk_cell BK145.out 1).trans rfl, (blk_cell BK145.out 2).trans rfl⟩ (fun hHeld => ?_)
                      clear hK K
                      refine norm_ (a' := ?_) ?_ ?_
                      rotate_left
                      · show Act.put _ (some 63) _ = _
                        simp only [Act.put, List.setIfInBounds_toArray, List.set_cons_zero, List.set_cons_succ, i64_w, i32_w]
                        rfl
                      refine pure_ (i := 32) (N := some 64) (v := ?_) (a' := ?_) #[true, true, true, true, true, true, true, true, true, true, true, true, true, true, true, true, true, true, true, true, true, true, true, true, true, true, true, true, true, true, true, true, true, false, false] rfl rfl (any_of HT_.out (by kernel_rfl)) (fun _ _ _ h => h) (Or.inl ⟨by rfl, ?_⟩) ?_ ?_
                      rotate_left
                      · intro w'
                        go_simp
                        with_reducible rfl
                      rotate_left
                      · simp only [Act.put, List.setIfInBounds_toArray, List.set_cons_zero, List.set_cons_succ, i64_w, i32_w]
                        rfl
                      refine pure_ (i := 33) (N := some 65) (v := ?_) (a' := ?_) #[true, true, true, true, true, true, true, true, true, true, true, true, true, true, true, true, true, true, true, true, true, true, true, true, true, true, true, true, true, true, true, true, true, true, false] rfl rfl (any_of HT_.out (by kernel_rfl)) (fun _ _ _ h => h) (Or.inl ⟨by rfl, ?_⟩) ?_ ?_
                      rotate_left
                      · intro w'
                        go_simp
                        with_reducible rfl
                      rotate_left
                      · simp only [Act.put, List.setIfInBounds_toArray, List.set_cons_zero, List.set_cons_succ, i64_w, i32_w]
                        rfl
                      refine pure_ (i := 34) (N := some 66) (v := ?_) (a' := ?_) #[true, true, true, true, true, true, true, true, true, true, true, true, true, true, true, true, true, true, true, true, true, true, true, true, true, true, true, true, true, true, true, true, true, true, true] rfl rfl (any_of HT_.out (by kernel_rfl)) (fun _ _ _ h => h) (Or.inl ⟨by rfl, ?_⟩) ?_ ?_
                      rotate_left
                      · intro w'
                        go_simp
                        with_reducible rfl
                      rotate_left
                      · simp only [Act.put, List.setIfInBounds_toArray, List.set_cons_zero, List.set_cons_succ, i64_w, i32_w]
                        rfl
                      refine done_ (done_of HT_.out (by kernel_rfl)) ?_
                      try go_wp2
                      go_meet
                      case rel => exact ⟨_, (!t175), (by first | rfl | (simp; done) | (simp [*]; done)), H', ⟨by have := HJ2.out; first | omega | exact Nat.le_refl _⟩, ⟨by (with_reducible repeat (first | apply rA|apply rN|apply rD)); exact HO167.out⟩, ⟨by (with_reducible repeat (first | apply vA|apply vN|apply vD)); exact Kd.V_mono HO152.out (fun _ hk => ⟨hk.2.2.1, ⟨hk.1, ⟨hk.2.1, ⟨hk.2.2.2.1, ⟨hk.2.2.2.2.1, ⟨hk.2.2.2.2.2.1, hk.2.2.2.2.2.2⟩⟩⟩⟩⟩⟩)⟩, ⟨by (with_reducible repeat (first | apply rA|apply rN|apply rD)); exact HO155.out⟩, ⟨by (with_reducible repeat (first | apply vA|apply vN|apply vD)); exact Kd.V_mono HO161.out (fun _ hk => ⟨hk.2.2.1, ⟨hk.1, ⟨hk.2.1, ⟨hk.2.2.2.1, ⟨hk.2.2.2.2.1, ⟨hk.2.2.2.2.2.1, hk.2.2.2.2.2.2⟩⟩⟩⟩⟩⟩)⟩, ⟨by (with_reducible repeat (first | apply rA|apply rN|apply rD)); exact HO164.out⟩, ⟨by (with_reducible repeat (first | refine blk_drewN ?_ _ | refine blk_drew ?_ | refine blk_alloc ?_ _)); exact BK145.out⟩, ⟨by (with_reducible repeat (first | refine blk_drewN ?_ _ | refine blk_drew ?_ | refine blk_alloc ?_ _)); exact BK146.out⟩, ⟨by (with_reducible repeat (first | refine blk_drewN ?_ _ | refine blk_drew ?_ | refine blk_alloc ?_ _)); exact BK157.out⟩, ⟨by (with_reducible repeat (first | refine blk_drewN ?_ _ | refine blk_drew ?_ | refine blk_alloc ?_ _)); exact BK169.out⟩, ⟨by repeat (first | (with_reducible first | exact HB.out | apply bA|apply bN|apply bD | refine below_set ?_ GE145.out | refine below_set ?_ GE146.out | refine below_set ?_ GE157.out | refine below_set ?_ GE169.out) | exact HB.out)⟩⟩
                    · rw [if_neg c50] at H
                      exact absurd H (by simp)
                  · rw [if_neg c49] at H
                    exact absurd H (by simp)
              · rw [if_neg c44] at H
                have c44b0 : (t149 == a0_0) = false := beq_eq_false_iff_ne.mpr c44
                have c44b1 : (t149 != a0_0) = true := bne_iff_ne.mpr c44
                have H' := aS H
                clear H
                try go_wp2
                have n0_ : Aside0 (Kd.V (Kd.int .i64) 3 (((w34.setCell ⟨gb169, 0, none⟩ (.int .i64 t158)).setCell ⟨gb169, 1, none⟩ (.slice Ao39 t159.length co39)).setCell ⟨gb169, 2, none⟩ (.slice Ao40 t162.length co40)) w.heap.size (fun k_ => some k_ ≠ (.slice Ao30 t153.length co30 : Value).ownBlock ∧ some k_ ≠ (.slice Ao40 t162.length co40 : Value).ownBlock ∧ some k_ ≠ (v166 : Value).ownBlock ∧ k_ ≠ gb145 ∧ k_ ≠ gb146 ∧ k_ ≠ gb157 ∧ k_ ≠ gb169) (.slice Ao29 t150.length co29) t150) := ⟨by (with_reducible repeat (first | apply vA|apply vN|apply vD)); exact Kd.V_mono (Kd.V_far (p := ⟨gb169, 2, none⟩) (Kd.V_far (p := ⟨gb169, 1, none⟩) (Kd.V_far (p := ⟨gb169, 0, none⟩) (Kd.V_mono HO152.out (fun k_ hk => (⟨hk, hk.2⟩ : _ ∧ k_ ≠ gb169))) (fun _ hk => hk.2) (.int .i64 t158)) (fun _ hk => hk.2) (.slice Ao39 t159.length co39)) (fun _ hk => hk.2) (.slice Ao40 t162.length co40)) (fun _ hk => ⟨hk.1.1.1.1.1, ⟨hk.1.1.1.2, ⟨hk.1.1.2, ⟨hk.1.1.1.1.2.1, ⟨hk.1.1.1.1.2.2.1, ⟨hk.1.1.1.1.2.2.2, hk.1.2⟩⟩⟩⟩⟩⟩)⟩
                have n1_ : Aside0 (Kd.R k44 44 (((w34.setCell ⟨gb169, 0, none⟩ (.int .i64 t158)).setCell ⟨gb169, 1, none⟩ (.slice Ao39 t159.length co39)).setCell ⟨gb169, 2, none⟩ (.slice Ao40 t162.length co40)) w.heap.size (fun k_ => some k_ ≠ (.slice Ao40 t162.length co40 : Value).ownBlock) (.slice Ao30 t153.length co30) t153) := ⟨by (with_reducible repeat (first | apply rA|apply rN|apply rD)); exact Kd.R_mono (Kd.R_far (p := ⟨gb169, 2, none⟩) (Kd.R_far (p := ⟨gb169, 1, none⟩) (Kd.R_far (p := ⟨gb169, 0, none⟩) (Kd.R_types HO155.out BK169.out (by decide)) (fun _ hk => hk.2) (.int .i64 t158)) (fun _ hk => hk.2) (.slice Ao39 t159.length co39)) (fun _ hk => hk.2) (.slice Ao40 t162.length co40)) (fun _ hk => hk.1.2)⟩
                have n2_ : Aside0 (Kd.V (Kd.int .i64) 3 (((w34.setCell ⟨gb169, 0, none⟩ (.int .i64 t158)).setCell ⟨gb169, 1, none⟩ (.slice Ao39 t159.length co39)).setCell ⟨gb169, 2, none⟩ (.slice Ao40 t162.length co40)) w.heap.size (fun k_ => some k_ ≠ (.slice Ao30 t153.length co30 : Value).ownBlock ∧ some k_ ≠ (.slice Ao40 t162.length co40 : Value).ownBlock ∧ some k_ ≠ (v166 : Value).ownBlock ∧ k_ ≠ gb145 ∧ k_ ≠ gb146 ∧ k_ ≠ gb157 ∧ k_ ≠ gb169) (.slice Ao39 t159.length co39) t159) := ⟨by (with_reducible repeat (first | apply vA|apply vN|apply vD)); exact Kd.V_mono (Kd.V_far (p := ⟨gb169, 2, none⟩) (Kd.V_far (p := ⟨gb169, 1, none⟩) (Kd.V_far (p := ⟨gb169, 0, none⟩) (Kd.V_mono HO161.out (fun k_ hk => (⟨hk, hk.2⟩ : _ ∧ k_ ≠ gb169))) (fun _ hk => hk.2) (.int .i64 t158)) (fun _ hk => hk.2) (.slice Ao39 t159.length co39)) (fun _ hk => hk.2) (.slice Ao40 t162.length co40)) (fun _ hk => ⟨hk.1.1.2.2.1, ⟨hk.1.1.1, ⟨hk.1.1.2.1, ⟨hk.1.1.2.2.2.1, ⟨hk.1.1.2.2.2.2.1, ⟨hk.1.1.2.2.2.2.2, hk.1.2⟩⟩⟩⟩⟩⟩)⟩
                have n3_ : Aside0 (Kd.R k44 44 (((w34.setCell ⟨gb169, 0, none⟩ (.int .i64 t158)).setCell ⟨gb169, 1, none⟩ (.slice Ao39 t159.length co39)).setCell ⟨gb169, 2, none⟩ (.slice Ao40 t162.length co40)) w.heap.size (fun k_ => some k_ ≠ (.slice Ao30 t153.length co30 : Value).ownBlock) (.slice Ao40 t162.length co40) t162) := ⟨by (with_reducible repeat (first | apply rA|apply rN|apply rD)); exact Kd.R_mono (Kd.R_far (p := ⟨gb169, 2, none⟩) (Kd.R_far (p := ⟨gb169, 1, none⟩) (Kd.R_far (p := ⟨gb169, 0, none⟩) (Kd.R_types HO164.out BK169.out (by decide)) (fun _ hk => hk.2) (.int .i64 t158)) (fun _ hk => hk.2) (.slice Ao39 t159.length co39)) (fun _ hk => hk.2) (.slice Ao40 t162.length co40)) (fun _ hk => hk.1.2)⟩
                have n4_ : Aside0 (Kd.R k27 27 (((w34.setCell ⟨gb169, 0, none⟩ (.int .i64 t158)).setCell ⟨gb169, 1, none⟩ (.slice Ao39 t159.length co39)).setCell ⟨gb169, 2, none⟩ (.slice Ao40 t162.length co40)) w.heap.size (fun k_ => k_ ≠ gb146) v166 t165) := ⟨by (with_reducible repeat (first | apply rA|apply rN|apply rD)); exact Kd.R_mono (Kd.R_far (p := ⟨gb169, 2, none⟩) (Kd.R_far (p := ⟨gb169, 1, none⟩) (Kd.R_far (p := ⟨gb169, 0, none⟩) (Kd.R_types HO167.out BK169.out (by decide)) (fun _ hk => hk.2) (.int .i64 t158)) (fun _ hk => hk.2) (.slice Ao39 t159.length co39)) (fun _ hk => hk.2) (.slice Ao40 t162.length co40)) (fun _ hk => hk.1.2)⟩
                have n5_ : Aside0 ((((w34.setCell ⟨gb169, 0, none⟩ (.int .i64 t158)).setCell ⟨gb169, 1, none⟩ (.slice Ao39 t159.length co39)).setCell ⟨gb169, 2, none⟩ (.slice Ao40 t162.length co40)).heap[gb145]? = some (.cells #[.int .i64 a0_0, .slice A0_1 l0_1.length c0_1, .slice A0_2 l0_2.length c0_2] 25 (0, 0))) := ⟨by (with_reducible repeat (first | refine blk_drewN ?_ _ | refine blk_drew ?_ | refine blk_alloc ?_ _)); refine blk_far ?_ NB145_169.out _; (with_reducible repeat (first | refine blk_drewN ?_ _ | refine blk_drew ?_ | refine blk_alloc ?_ _)); refine blk_far ?_ NB145_169.out _; (with_reducible repeat (first | refine blk_drewN ?_ _ | refine blk_drew ?_ | refine blk_alloc ?_ _)); refine blk_far ?_ NB145_169.out _; (with_reducible repeat (first | refine blk_drewN ?_ _ | refine blk_drew ?_ | refine blk_alloc ?_ _)); exact BK145.out⟩
                have n6_ : Aside0 ((((w34.setCell ⟨gb169, 0, none⟩ (.int .i64 t158)).setCell ⟨gb169, 1, none⟩ (.slice Ao39 t159.length co39)).setCell ⟨gb169, 2, none⟩ (.slice Ao40 t162.length co40)).heap[gb146]? = some (.cells #[.int .i64 a1_0, .int .i64 a1_1, .string a1_2] 27 (0, 0))) := ⟨by (with_reducible repeat (first | refine blk_drewN ?_ _ | refine blk_drew ?_ | refine blk_alloc ?_ _)); refine blk_far ?_ NB146_169.out _; (with_reducible repeat (first | refine blk_drewN ?_ _ | refine blk_drew ?_ | refine blk_alloc ?_ _)); refine blk_far ?_ NB146_169.out _; (with_reducible repeat (first | refine blk_drewN ?_ _ | refine blk_drew ?_ | refine blk_alloc ?_ _)); refine blk_far ?_ NB146_169.out _; (with_reducible repeat (first | refine blk_drewN ?_ _ | refine blk_drew ?_ | refine blk_alloc ?_ _)); exact BK146.out⟩
                have n7_ : Aside0 ((((w34.setCell ⟨gb169, 0, none⟩ (.int .i64 t158)).setCell ⟨gb169, 1, none⟩ (.slice Ao39 t159.length co39)).setCell ⟨gb169, 2, none⟩ (.slice Ao40 t162.length co40)).heap[gb157]? = some (.cells #[.int .i64 t149, .slice Ao29 t150.length co29, .slice Ao30 t153.length co30] 25 (0, 0))) := ⟨by (with_reducible repeat (first | refine blk_drewN ?_ _ | refine blk_drew ?_ | refine blk_alloc ?_ _)); refine blk_far ?_ NB157_169.out _; (with_reducible repeat (first | refine blk_drewN ?_ _ | refine blk_drew ?_ | refine blk_alloc ?_ _)); refine blk_far ?_ NB157_169.out _; (with_reducible repeat (first | refine blk_drewN ?_ _ | refine blk_drew ?_ | refine blk_alloc ?_ _)); refine blk_far ?_ NB157_169.out _; (with_reducible repeat (first | refine blk_drewN ?_ _ | refine blk_drew ?_ | refine blk_alloc ?_ _)); exact BK157.out⟩
                have n8_ : Aside0 ((((w34.setCell ⟨gb169, 0, none⟩ (.int .i64 t158)).setCell ⟨gb169, 1, none⟩ (.slice Ao39 t159.length co39)).setCell ⟨gb169, 2, none⟩ (.slice Ao40 t162.length co40)).heap[gb169]? = some (.cells #[.int .i64 t158, .slice Ao39 t159.length co39, .slice Ao40 t162.length co40] 25 (0, 0))) := ⟨by (with_reducible repeat (first | refine blk_drewN ?_ _ | refine blk_drew ?_ | refine blk_alloc ?_ _)); refine blk_put (cs := #[.int .i64 t158, .slice Ao39 t159.length co39, .slice none 0 0]) ?_ 2 _ rfl; (with_reducible repeat (first | refine blk_drewN ?_ _ | refine blk_drew ?_ | refine blk_alloc ?_ _)); refine blk_put (cs := #[.int .i64 t158, .slice none 0 0, .slice none 0 0]) ?_ 1 _ rfl; (with_reducible repeat (first | refine blk_drewN ?_ _ | refine blk_drew ?_ | refine blk_alloc ?_ _)); refine blk_put (cs := #[.int .i64 0, .slice none 0 0, .slice none 0 0]) ?_ 0 _ rfl; (with_reducible repeat (first | refine blk_drewN ?_ _ | refine blk_drew ?_ | refine blk_alloc ?_ _)); exact BK169.out⟩
                have n9_ : Aside0 (Below w.heap.size w (((w34.setCell ⟨gb169, 0, none⟩ (.int .i64 t158)).setCell ⟨gb169, 1, none⟩ (.slice Ao39 t159.length co39)).setCell ⟨gb169, 2, none⟩ (.slice Ao40 t162.length co40))) := ⟨by repeat (first | (with_reducible first | exact HB.out | apply bA|apply bN|apply bD | refine below_set ?_ GE145.out | refine below_set ?_ GE146.out | refine below_set ?_ GE157.out | refine below_set ?_ GE169.out) | exact HB.out)⟩
                (try clear HO152)
                (try clear HO155)
                (try clear HO161)
                (try clear HO164)
                (try clear HO167)
                (try clear BK145)
                (try clear BK146)
                (try clear BK157)
                (try clear BK169)
                (try clear HB)
                generalize (((w34.setCell ⟨gb169, 0, none⟩ (.int .i64 t158)).setCell ⟨gb169, 1, none⟩ (.slice Ao39 t159.length co39)).setCell ⟨gb169, 2, none⟩ (.slice Ao40 t162.length co40)) = w56 at n0_ n1_ n2_ n3_ n4_ n5_ n6_ n7_ n8_ n9_ ⊢
                have HO152 := n0_
                have HO155 := n1_
                have HO161 := n2_
                have HO164 := n3_
                have HO167 := n4_
                have BK145 := n5_
                have BK146 := n6_
                have BK157 := n7_
                have BK169 := n8_
                have HB := n9_
                clear n0_ n1_ n2_ n3_ n4_ n5_ n6_ n7_ n8_ n9_
                have n0_ := aS (Kd.V_drew HO152.out)
                have n1_ := aS (Kd.R_drew HO155.out)
                have n2_ := aS (Kd.V_drew HO161.out)
                have n3_ := aS (Kd.R_drew HO164.out)
                have n4_ := aS (Kd.R_drew HO167.out)
                have n5_ := aS (blk_drew BK145.out)
                have n6_ := aS (blk_drew BK146.out)
                have n7_ := aS (blk_drew BK157.out)
                have n8_ := aS (blk_drew BK169.out)
                have n9_ := aS (below_drew1 HB.out)
                clear HO152
                clear HO155
                clear HO161
                clear HO164
                clear HO167
                clear BK145
                clear BK146
                clear BK157
                clear BK169
                clear HB
                have HO152 := n0_
                have HO155 := n1_
                have HO161 := n2_
                have HO164 := n3_
                have HO167 := n4_
                have BK145 := n5_
                have BK146 := n6_
                have BK157 := n7_
                have BK169 := n8_
                have HB := n9_
                clear n0_ n1_ n2_ n3_ n4_ n5_ n6_ n7_ n8_ n9_
                refine start_ (n := 35) (S := fun w' => w'.cell? ⟨gb157, 0, none⟩ = some (.int .i64 t149) ∧ w'.cell? ⟨gb157, 1, none⟩ = some (.slice Ao29 t150.length co29) ∧ w'.cell? ⟨gb157, 2, none⟩ = some (.slice Ao30 t153.length co30) ∧ w'.cell? ⟨gb145, 0, none⟩ = some (.int .i64 a0_0) ∧ w'.cell? ⟨gb145, 1, none⟩ = some (.slice A0_1 l0_1.length c0_1) ∧ w'.cell? ⟨gb145, 2, none⟩ = some (.slice A0_2 l0_2.length c0_2)) (ds := []) #[false, false, false, false, false, false, false, false, false, false, false, false, false, false, false, false, false, false, false, false, false, false, false, false, false, false, false, false, false, false, false, false, false, false, false] (by kernel_rfl) rfl rfl ⟨(blk_cell BK157.out 0).trans rfl, (blk_cell BK157.out 1).trans rfl, (blk_cell BK157.out 2).trans rfl, (blk_cell BK145.out 0).trans rfl, (blk_cell BK145.out 1).trans rfl, (blk_cell BK145.out 2).trans rfl⟩ (fun hHeld => ?_); refine with_tabW lookoutlaw50_NetworkValid.tab5 lookoutlaw50_NetworkValid.bits5 (fun HT_ HW_ => ?_)
                generalize w56.drew = w57 at HO152 HO155 HO161 HO164 HO167 BK145 BK146 BK157 BK169 HB hHeld ⊢
                refine pure_ (i := 0) (N := some 32) (v := ?_) (a' := ?_) #[true, false, false, false, false, false, false, false, false, false, false, false, false, false, false, false, false, false, false, false, false, false, false, false, false, false, false, false, false, false, false, false, false, false, false] rfl rfl (any_of HT_.out (by kernel_rfl)) (fun _ _ _ h => h) (Or.inl ⟨by rfl, ?_⟩) ?_ ?_
                rotate_left
                · intro w'
                  go_simp
                  with_reducible rfl
                rotate_left
                · simp only [Act.put, List.setIfInBounds_toArray, List.set_cons_zero, List.set_cons_succ, i64_w, i32_w]
                  rfl
                refine pure_ (i := 1) (N := some 33) (v := ?_) (a' := ?_) #[true, true, false, false, false, false, false, false, false, false, false, false, false, false, false, false, false, false, false, false, false, false, false, false, false, false, false, false, false, false, false, false, false, false, false] rfl rfl (any_of HT_.out (by kernel_rfl)) (fun _ _ _ h => h) (Or.inl ⟨by rfl, ?_⟩) ?_ ?_
                rotate_left
                · intro w'
                  go_simp
                  with_reducible rfl
                rotate_left
                · simp only [Act.put, List.setIfInBounds_toArray, List.set_cons_zero, List.set_cons_succ, i64_w, i32_w]
                  rfl
                refine pure_ (i := 2) (N := some 34) (v := ?_) (a' := ?_) #[true, true, true, false, false, false, false, false, false, false, false, false, false, false, false, false, false, false, false, false, false, false, false, false, false, false, false, false, false, false, false, false, false, false, false] rfl rfl (any_of HT_.out (by kernel_rfl)) (fun _ _ _ h => h) (Or.inl ⟨by rfl, ?_⟩) ?_ ?_
                rotate_left
                · intro w'
                  go_simp
                  with_reducible rfl
                rotate_left
                · simp only [Act.put, List.setIfInBounds_toArray, List.set_cons_zero, List.set_cons_succ, i64_w, i32_w]
                  rfl
                refine take_ (i := 3) (N := some 35) (v := ?_) (a' := ?_) #[true, true, true, true, false, false, false, false, false, false, false, false, false, false, false, false, false, false, false, false, false, false, false, false, false, false, false, false, false, false, false, false, false, false, false] rfl rfl (take_ofW HT_.out HW_.out (by kernel_rfl)) (fun _ _ _ h => h) (Or.inl ⟨by rfl, ?_⟩) hHeld ?_ ?_
                rotate_left
                · rintro w' ⟨s0, s1, s2, s3, s4, s5⟩
                  go_simp
                  with_reducible rfl
                rotate_left
                · simp only [Act.put, List.setIfInBounds_toArray, List.set_cons_zero, List.set_cons_succ, i64_w, i32_w]
                  rfl
                refine one_ (i := 4) (N := some 36) #[true, true, true, true, true, false, false, false, false, false, false, false, false, false, false, false, false, false, false, false, false, false, false, false, false, false, false, false, false, false, false, false, false, false, false] rfl rfl (one_of HT_.out (by kernel_rfl)) (by decide) (fun K hK => ?_)
                refine goes_ Try.func15 (by kernel_rfl) rfl #[.agg #[.int .i64 t149, .slice Ao29 t150.length co29, .slice Ao30 t153.length co30]] (by rfl) rfl rfl (by (try simp only [List.map_toArray, List.map_cons, List.map_nil]); first | done | rfl | (simp only [List.length_drop, List.length_take]; rfl)) ?_
                with_reducible refine (network_Check.calls kj2 t149 _ _ t150 _ _ t153 t170 _ ?side1 ?side2 ?side3 ?side4 A42.out).mono ?_
                (case side1 => repeat (first | exact (Kd.V_reads' HO152.out).2.2 | (with_reducible refine Kd.C_alloc ?_ _) | (with_reducible refine Kd.C_drewN ?_ _) | (with_reducible refine Kd.C_drew ?_)))
                (case side2 => exact (Kd.V_reads' HO152.out).2.1)
                (case side3 => repeat (first | exact (Kd.R_reads' HO155.out).2.2 | (with_reducible refine Kd.C_alloc ?_ _) | (with_reducible refine Kd.C_drewN ?_ _) | (with_reducible refine Kd.C_drew ?_)))
                (case side4 => exact (Kd.R_reads' HO155.out).2.1)
                rintro e w58 ⟨rfl, hb⟩
                refine ⟨_, rfl, ?_⟩
                have n0_ := aS (Kd.V_below (by (with_reducible repeat (first | apply vA|apply vN|apply vD)); exact HO152.out) hb)
                have n1_ := aS (Kd.R_below (by (with_reducible repeat (first | apply rA|apply rN|apply rD)); exact HO155.out) hb)
                have n2_ := aS (Kd.V_below (by (with_reducible repeat (first | apply vA|apply vN|apply vD)); exact HO161.out) hb)
                have n3_ := aS (Kd.R_below (by (with_reducible repeat (first | apply rA|apply rN|apply rD)); exact HO164.out) hb)
                have n4_ := aS (Kd.R_below (by (with_reducible repeat (first | apply rA|apply rN|apply rD)); exact HO167.out) hb)
                have n5_ := aS (blk_below (g := gb145) (o := .cells #[.int .i64 a0_0, .slice A0_1 l0_1.length c0_1, .slice A0_2 l0_2.length c0_2] 25 (0, 0)) (by (with_reducible repeat (first | refine blk_drewN ?_ _ | refine blk_drew ?_ | refine blk_alloc ?_ _)); exact BK145.out) hb)
                have n6_ := aS (blk_below (g := gb146) (o := .cells #[.int .i64 a1_0, .int .i64 a1_1, .string a1_2] 27 (0, 0)) (by (with_reducible repeat (first | refine blk_drewN ?_ _ | refine blk_drew ?_ | refine blk_alloc ?_ _)); exact BK146.out) hb)
                have n7_ := aS (blk_below (g := gb157) (o := .cells #[.int .i64 t149, .slice Ao29 t150.length co29, .slice Ao30 t153.length co30] 25 (0, 0)) (by (with_reducible repeat (first | refine blk_drewN ?_ _ | refine blk_drew ?_ | refine blk_alloc ?_ _)); exact BK157.out) hb)
                have n8_ := aS (blk_below (g := gb169) (o := .cells #[.int .i64 t158, .slice Ao39 t159.length co39, .slice Ao40 t162.length co40] 25 (0, 0)) (by (with_reducible repeat (first | refine blk_drewN ?_ _ | refine blk_drew ?_ | refine blk_alloc ?_ _)); exact BK169.out) hb)
                have n9_ := aS (below_step (by repeat (first | (with_reducible first | exact HB.out | apply bA|apply bN|apply bD | refine below_set ?_ GE145.out | refine below_set ?_ GE146.out | refine below_set ?_ GE157.out | refine below_set ?_ GE169.out) | exact HB.out)) hb)
                clear HO152
                clear HO155
                clear HO161
                clear HO164
                clear HO167
                clear BK145
                clear BK146
                clear BK157
                clear BK169
                clear HB
                have HO152 := n0_
                have HO155 := n1_
                have HO161 := n2_
                have HO164 := n3_
                have HO167 := n4_
                have BK145 := n5_
                have BK146 := n6_
                have BK157 := n7_
                have BK169 := n8_
                have HB := n9_
                clear n0_ n1_ n2_ n3_ n4_ n5_ n6_ n7_ n8_ n9_
                (try clear hb)
                (try clear hb2)
                (try clear hk)
                (try clear hi)
                refine hK.out _ _ ⟨(blk_cell BK157.out 0).trans rfl, (blk_cell BK157.out 1).trans rfl, (blk_cell BK157.out 2).trans rfl, (blk_cell BK145.out 0).trans rfl, (blk_cell BK145.out 1).trans rfl, (blk_cell BK145.out 2).trans rfl⟩ (fun hHeld => ?_)
                clear hK K
                refine norm_ (a' := ?_) ?_ ?_
                rotate_left
                · show Act.put _ (some 36) _ = _
                  simp only [Act.put, List.setIfInBounds_toArray, List.set_cons_zero, List.set_cons_succ, i64_w, i32_w]
                  rfl
                refine pure_ (i := 5) (N := some 37) (v := ?_) (a' := ?_) #[true, true, true, true, true, true, false, false, false, false, false, false, false, false, false, false, false, false, false, false, false, false, false, false, false, false, false, false, false, false, false, false, false, false, false] rfl rfl (any_of HT_.out (by kernel_rfl)) (fun _ _ _ h => h) (Or.inl ⟨by rfl, ?_⟩) ?_ ?_
                rotate_left
                · intro w'
                  go_simp
                  with_reducible rfl
                rotate_left
                · simp only [Act.put, List.setIfInBounds_toArray, List.set_cons_zero, List.set_cons_succ, i64_w, i32_w]
                  rfl
                refine pure_ (i := 6) (N := some 38) (v := ?_) (a' := ?_) #[true, true, true, true, true, true, true, false, false, false, false, false, false, false, false, false, false, false, false, false, false, false, false, false, false, false, false, false, false, false, false, false, false, false, false] rfl rfl (any_of HT_.out (by kernel_rfl)) (fun _ _ _ h => h) (Or.inl ⟨by rfl, ?_⟩) ?_ ?_
                rotate_left
                · intro w'
                  go_simp
                  with_reducible rfl
                rotate_left
                · simp only [Act.put, List.setIfInBounds_toArray, List.set_cons_zero, List.set_cons_succ, i64_w, i32_w]
                  rfl
                refine pure_ (i := 7) (N := some 39) (v := ?_) (a' := ?_) #[true, true, true, true, true, true, true, true, false, false, false, false, false, false, false, false, false, false, false, false, false, false, false, false, false, false, false, false, false, false, false, false, false, false, false] rfl rfl (any_of HT_.out (by kernel_rfl)) (fun _ _ _ h => h) (Or.inl ⟨by rfl, ?_⟩) ?_ ?_
                rotate_left
                · intro w'
                  go_simp
                  with_reducible rfl
                rotate_left
                · simp only [Act.put, List.setIfInBounds_toArray, List.set_cons_zero, List.set_cons_succ, i64_w, i32_w]
                  rfl
                refine pure_ (i := 9) (N := some 41) (v := ?_) (a' := ?_) #[true, true, true, true, true, true, true, true, false, true, false, false, false, false, false, false, false, false, false, false, false, false, false, false, false, false, false, false, false, false, false, false, false, false, false] rfl rfl (any_of HT_.out (by kernel_rfl)) (fun _ _ _ h => h) (Or.inl ⟨by rfl, ?_⟩) ?_ ?_
                rotate_left
                · intro w'
                  go_simp
                  with_reducible rfl
                rotate_left
                · simp only [Act.put, List.setIfInBounds_toArray, List.set_cons_zero, List.set_cons_succ, i64_w, i32_w]
                  rfl
                refine take_ (i := 8) (N := some 40) (v := ?_) (a' := ?_) #[true, true, true, true, true, true, true, true, true, true, false, false, false, false, false, false, false, false, false, false, false, false, false, false, false, false, false, false, false, false, false, false, false, false, false] rfl rfl (take_ofW HT_.out HW_.out (by kernel_rfl)) (fun _ _ _ h => h) (Or.inl ⟨by rfl, ?_⟩) hHeld ?_ ?_
                rotate_left
                · rintro w' ⟨s0, s1, s2, s3, s4, s5⟩
                  go_simp
                  with_reducible rfl
                rotate_left
                · simp only [Act.put, List.setIfInBounds_toArray, List.set_cons_zero, List.set_cons_succ, i64_w, i32_w]
                  rfl
                refine take_ (i := 10) (N := some 42) (v := ?_) (a' := ?_) #[true, true, true, true, true, true, true, true, true, true, true, false, false, false, false, false, false, false, false, false, false, false, false, false, false, false, false, false, false, false, false, false, false, false, false] rfl rfl (take_ofW HT_.out HW_.out (by kernel_rfl)) (fun _ _ _ h => h) (Or.inl ⟨by rfl, ?_⟩) hHeld ?_ ?_
                rotate_left
                · rintro w' ⟨s0, s1, s2, s3, s4, s5⟩
                  go_simp
                  with_reducible rfl
                rotate_left
                · simp only [Act.put, List.setIfInBounds_toArray, List.set_cons_zero, List.set_cons_succ, i64_w, i32_w]
                  rfl
                refine pure_ (i := 11) (N := some 43) (v := ?_) (a' := ?_) #[true, true, true, true, true, true, true, true, true, true, true, true, false, false, false, false, false, false, false, false, false, false, false, false, false, false, false, false, false, false, false, false, false, false, false] rfl rfl (any_of HT_.out (by kernel_rfl)) (fun _ _ _ h => h) (Or.inl ⟨by rfl, ?_⟩) ?_ ?_
                rotate_left
                · intro w'
                  go_simp
                  with_reducible rfl
                rotate_left
                · simp only [Act.put, List.setIfInBounds_toArray, List.set_cons_zero, List.set_cons_succ, i64_w, i32_w]
                  rfl
                refine pure_ (i := 12) (N := some 44) (v := ?_) (a' := ?_) #[true, true, true, true, true, true, true, true, true, true, true, true, true, false, false, false, false, false, false, false, false, false, false, false, false, false, false, false, false, false, false, false, false, false, false] rfl rfl (any_of HT_.out (by kernel_rfl)) (fun _ _ _ h => h) (Or.inl ⟨by rfl, ?_⟩) ?_ ?_
                rotate_left
                · intro w'
                  go_simp
                  with_reducible rfl
                rotate_left
                · simp only [Act.put, List.setIfInBounds_toArray, List.set_cons_zero, List.set_cons_succ, i64_w, i32_w]
                  rfl
                refine pure_ (i := 13) (N := some 45) (v := ?_) (a' := ?_) #[true, true, true, true, true, true, true, true, true, true, true, true, true, true, false, false, false, false, false, false, false, false, false, false, false, false, false, false, false, false, false, false, false, false, false] rfl rfl (any_of HT_.out (by kernel_rfl)) (fun _ _ _ h => h) (Or.inl ⟨by rfl, ?_⟩) ?_ ?_
                rotate_left
                · intro w'
                  go_simp
                  with_reducible rfl
                rotate_left
                · simp only [Act.put, List.setIfInBounds_toArray, List.set_cons_zero, List.set_cons_succ, i64_w, i32_w]
                  rfl
                refine pure_ (i := 14) (N := some 46) (v := undef) (a' := ?_) #[true, true, true, true, true, true, true, true, true, true, true, true, true, true, true, false, false, false, false, false, false, false, false, false, false, false, false, false, false, false, false, false, false, false, false] rfl rfl (any_of HT_.out (by kernel_rfl)) (fun _ _ _ h => h) (Or.inr ⟨by rfl, rfl⟩) ?_ ?_
                rotate_left
                · simp only [Act.put, List.setIfInBounds_toArray, List.set_cons_zero, List.set_cons_succ, i64_w, i32_w]
                  rfl
                refine pure_ (i := 15) (N := some 47) (v := undef) (a' := ?_) #[true, true, true, true, true, true, true, true, true, true, true, true, true, true, true, true, false, false, false, false, false, false, false, false, false, false, false, false, false, false, false, false, false, false, false] rfl rfl (any_of HT_.out (by kernel_rfl)) (fun _ _ _ h => h) (Or.inr ⟨by rfl, rfl⟩) ?_ ?_
                rotate_left
                · simp only [Act.put, List.setIfInBounds_toArray, List.set_cons_zero, List.set_cons_succ, i64_w, i32_w]
                  rfl
                refine pure_ (i := 16) (N := some 48) (v := undef) (a' := ?_) #[true, true, true, true, true, true, true, true, true, true, true, true, true, true, true, true, true, false, false, false, false, false, false, false, false, false, false, false, false, false, false, false, false, false, false] rfl rfl (any_of HT_.out (by kernel_rfl)) (fun _ _ _ h => h) (Or.inr ⟨by rfl, rfl⟩) ?_ ?_
                rotate_left
                · simp only [Act.put, List.setIfInBounds_toArray, List.set_cons_zero, List.set_cons_succ, i64_w, i32_w]
                  rfl
                refine pure_ (i := 17) (N := some 49) (v := undef) (a' := ?_) #[true, true, true, true, true, true, true, true, true, true, true, true, true, true, true, true, true, true, false, false, false, false, false, false, false, false, false, false, false, false, false, false, false, false, false] rfl rfl (any_of HT_.out (by kernel_rfl)) (fun _ _ _ h => h) (Or.inr ⟨by rfl, rfl⟩) ?_ ?_
                rotate_left
                · simp only [Act.put, List.setIfInBounds_toArray, List.set_cons_zero, List.set_cons_succ, i64_w, i32_w]
                  rfl
                refine pure_ (i := 18) (N := some 50) (v := undef) (a' := ?_) #[true, true, true, true, true, true, true, true, true, true, true, true, true, true, true, true, true, true, true, false, false, false, false, false, false, false, false, false, false, false, false, false, false, false, false] rfl rfl (any_of HT_.out (by kernel_rfl)) (fun _ _ _ h => h) (Or.inr ⟨by rfl, rfl⟩) ?_ ?_
                rotate_left
                · simp only [Act.put, List.setIfInBounds_toArray, List.set_cons_zero, List.set_cons_succ, i64_w, i32_w]
                  rfl
                refine pure_ (i := 19) (N := some 51) (v := undef) (a' := ?_) #[true, true, true, true, true, true, true, true, true, true, true, true, true, true, true, true, true, true, true, true, false, false, false, false, false, false, false, false, false, false, false, false, false, false, false] rfl rfl (any_of HT_.out (by kernel_rfl)) (fun _ _ _ h => h) (Or.inr ⟨by rfl, rfl⟩) ?_ ?_
                rotate_left
                · simp only [Act.put, List.setIfInBounds_toArray, List.set_cons_zero, List.set_cons_succ, i64_w, i32_w]
                  rfl
                refine pure_ (i := 20) (N := some 52) (v := undef) (a' := ?_) #[true, true, true, true, true, true, true, true, true, true, true, true, true, true, true, true, true, true, true, true, true, false, false, false, false, false, false, false, false, false, false, false, false, false, false] rfl rfl (any_of HT_.out (by kernel_rfl)) (fun _ _ _ h => h) (Or.inr ⟨by rfl, rfl⟩) ?_ ?_
                rotate_left
                · simp only [Act.put, List.setIfInBounds_toArray, List.set_cons_zero, List.set_cons_succ, i64_w, i32_w]
                  rfl
                refine pure_ (i := 21) (N := some 53) (v := ?_) (a' := ?_) #[true, true, true, true, true, true, true, true, true, true, true, true, true, true, true, true, true, true, true, true, true, true, false, false, false, false, false, false, false, false, false, false, false, false, false] rfl rfl (any_of HT_.out (by kernel_rfl)) (fun _ _ _ h => h) (Or.inl ⟨by rfl, ?_⟩) ?_ ?_
                rotate_left
                · intro w'
                  go_simp
                  with_reducible rfl
                rotate_left
                · simp only [Act.put, List.setIfInBounds_toArray, List.set_cons_zero, List.set_cons_succ, i64_w, i32_w]
                  rfl
                refine pure_ (i := 22) (N := some 54) (v := ?_) (a' := ?_) #[true, true, true, true, true, true, true, true, true, true, true, true, true, true, true, true, true, true, true, true, true, true, true, false, false, false, false, false, false, false, false, false, false, false, false] rfl rfl (any_of HT_.out (by kernel_rfl)) (fun _ _ _ h => h) (Or.inl ⟨by rfl, ?_⟩) ?_ ?_
                rotate_left
                · intro w'
                  go_simp
                  with_reducible rfl
                rotate_left
                · simp only [Act.put, List.setIfInBounds_toArray, List.set_cons_zero, List.set_cons_succ, i64_w, i32_w]
                  rfl
                refine pure_ (i := 23) (N := some 55) (v := undef) (a' := ?_) #[true, true, true, true, true, true, true, true, true, true, true, true, true, true, true, true, true, true, true, true, true, true, true, true, false, false, false, false, false, false, false, false, false, false, false] rfl rfl (any_of HT_.out (by kernel_rfl)) (fun _ _ _ h => h) (Or.inr ⟨by rfl, rfl⟩) ?_ ?_
                rotate_left
                · simp only [Act.put, List.setIfInBounds_toArray, List.set_cons_zero, List.set_cons_succ, i64_w, i32_w]
                  rfl
                refine pure_ (i := 24) (N := some 56) (v := undef) (a' := ?_) #[true, true, true, true, true, true, true, true, true, true, true, true, true, true, true, true, true, true, true, true, true, true, true, true, true, false, false, false, false, false, false, false, false, false, false] rfl rfl (any_of HT_.out (by kernel_rfl)) (fun _ _ _ h => h) (Or.inr ⟨by rfl, rfl⟩) ?_ ?_
                rotate_left
                · simp only [Act.put, List.setIfInBounds_toArray, List.set_cons_zero, List.set_cons_succ, i64_w, i32_w]
                  rfl
                refine pure_ (i := 25) (N := some 57) (v := undef) (a' := ?_) #[true, true, true, true, true, true, true, true, true, true, true, true, true, true, true, true, true, true, true, true, true, true, true, true, true, true, false, false, false, false, false, false, false, false, false] rfl rfl (any_of HT_.out (by kernel_rfl)) (fun _ _ _ h => h) (Or.inr ⟨by rfl, rfl⟩) ?_ ?_
                rotate_left
                · simp only [Act.put, List.setIfInBounds_toArray, List.set_cons_zero, List.set_cons_succ, i64_w, i32_w]
                  rfl
                refine pure_ (i := 26) (N := some 58) (v := undef) (a' := ?_) #[true, true, true, true, true, true, true, true, true, true, true, true, true, true, true, true, true, true, true, true, true, true, true, true, true, true, true, false, false, false, false, false, false, false, false] rfl rfl (any_of HT_.out (by kernel_rfl)) (fun _ _ _ h => h) (Or.inr ⟨by rfl, rfl⟩) ?_ ?_
                rotate_left
                · simp only [Act.put, List.setIfInBounds_toArray, List.set_cons_zero, List.set_cons_succ, i64_w, i32_w]
                  rfl
                refine pure_ (i := 27) (N := some 59) (v := undef) (a' := ?_) #[true, true, true, true, true, true, true, true, true, true, true, true, true, true, true, true, true, true, true, true, true, true, true, true, true, true, true, true, false, false, false, false, false, false, false] rfl rfl (any_of HT_.out (by kernel_rfl)) (fun _ _ _ h => h) (Or.inr ⟨by rfl, rfl⟩) ?_ ?_
                rotate_left
                · simp only [Act.put, List.setIfInBounds_toArray, List.set_cons_zero, List.set_cons_succ, i64_w, i32_w]
                  rfl
                refine pure_ (i := 28) (N := some 60) (v := undef) (a' := ?_) #[true, true, true, true, true, true, true, true, true, true, true, true, true, true, true, true, true, true, true, true, true, true, true, true, true, true, true, true, true, false, false, false, false, false, false] rfl rfl (any_of HT_.out (by kernel_rfl)) (fun _ _ _ h => h) (Or.inr ⟨by rfl, rfl⟩) ?_ ?_
                rotate_left
                · simp only [Act.put, List.setIfInBounds_toArray, List.set_cons_zero, List.set_cons_succ, i64_w, i32_w]
                  rfl
                refine pure_ (i := 29) (N := some 61) (v := undef) (a' := ?_) #[true, true, true, true, true, true, true, true, true, true, true, true, true, true, true, true, true, true, true, true, true, true, true, true, true, true, true, true, true, true, false, false, false, false, false] rfl rfl (any_of HT_.out (by kernel_rfl)) (fun _ _ _ h => h) (Or.inr ⟨by rfl, rfl⟩) ?_ ?_
                rotate_left
                · simp only [Act.put, List.setIfInBounds_toArray, List.set_cons_zero, List.set_cons_succ, i64_w, i32_w]
                  rfl
                refine pure_ (i := 30) (N := some 62) (v := undef) (a' := ?_) #[true, true, true, true, true, true, true, true, true, true, true, true, true, true, true, true, true, true, true, true, true, true, true, true, true, true, true, true, true, true, true, false, false, false, false] rfl rfl (any_of HT_.out (by kernel_rfl)) (fun _ _ _ h => h) (Or.inr ⟨by rfl, rfl⟩) ?_ ?_
                rotate_left
                · simp only [Act.put, List.setIfInBounds_toArray, List.set_cons_zero, List.set_cons_succ, i64_w, i32_w]
                  rfl
                refine pure_ (i := 31) (N := some 63) (v := undef) (a' := ?_) #[true, true, true, true, true, true, true, true, true, true, true, true, true, true, true, true, true, true, true, true, true, true, true, true, true, true, true, true, true, true, true, true, false, false, false] rfl rfl (any_of HT_.out (by kernel_rfl)) (fun _ _ _ h => h) (Or.inr ⟨by rfl, rfl⟩) ?_ ?_
                rotate_left
                · simp only [Act.put, List.setIfInBounds_toArray, List.set_cons_zero, List.set_cons_succ, i64_w, i32_w]
                  rfl
                refine pure_ (i := 32) (N := some 64) (v := undef) (a' := ?_) #[true, true, true, true, true, true, true, true, true, true, true, true, true, true, true, true, true, true, true, true, true, true, true, true, true, true, true, true, true, true, true, true, true, false, false] rfl rfl (any_of HT_.out (by kernel_rfl)) (fun _ _ _ h => h) (Or.inr ⟨by rfl, rfl⟩) ?_ ?_
                rotate_left
                · simp only [Act.put, List.setIfInBounds_toArray, List.set_cons_zero, List.set_cons_succ, i64_w, i32_w]
                  rfl
                refine pure_ (i := 33) (N := some 65) (v := ?_) (a' := ?_) #[true, true, true, true, true, true, true, true, true, true, true, true, true, true, true, true, true, true, true, true, true, true, true, true, true, true, true, true, true, true, true, true, true, true, false] rfl rfl (any_of HT_.out (by kernel_rfl)) (fun _ _ _ h => h) (Or.inl ⟨by rfl, ?_⟩) ?_ ?_
                rotate_left
                · intro w'
                  go_simp
                  with_reducible rfl
                rotate_left
                · simp only [Act.put, List.setIfInBounds_toArray, List.set_cons_zero, List.set_cons_succ, i64_w, i32_w]
                  rfl
                refine pure_ (i := 34) (N := some 66) (v := ?_) (a' := ?_) #[true, true, true, true, true, true, true, true, true, true, true, true, true, true, true, true, true, true, true, true, true, true, true, true, true, true, true, true, true, true, true, true, true, true, true] rfl rfl (any_of HT_.out (by kernel_rfl)) (fun _ _ _ h => h) (Or.inl ⟨by rfl, ?_⟩) ?_ ?_
                rotate_left
                · intro w'
                  go_simp
                  with_reducible rfl
                rotate_left
                · simp only [Act.put, List.setIfInBounds_toArray, List.set_cons_zero, List.set_cons_succ, i64_w, i32_w]
                  rfl
                refine done_ (done_of HT_.out (by kernel_rfl)) ?_
                try go_wp2
                go_meet
                case rel => exact ⟨_, (true), (by first | rfl | (simp; done) | (simp [*]; done)), H', ⟨by have := HJ2.out; first | omega | exact Nat.le_refl _⟩, ⟨by (with_reducible repeat (first | apply rA|apply rN|apply rD)); exact HO167.out⟩, ⟨by (with_reducible repeat (first | apply vA|apply vN|apply vD)); exact Kd.V_mono HO152.out (fun _ hk => ⟨hk.2.2.1, ⟨hk.1, ⟨hk.2.1, ⟨hk.2.2.2.1, ⟨hk.2.2.2.2.1, ⟨hk.2.2.2.2.2.1, hk.2.2.2.2.2.2⟩⟩⟩⟩⟩⟩)⟩, ⟨by (with_reducible repeat (first | apply rA|apply rN|apply rD)); exact HO155.out⟩, ⟨by (with_reducible repeat (first | apply vA|apply vN|apply vD)); exact Kd.V_mono HO161.out (fun _ hk => ⟨hk.2.2.1, ⟨hk.1, ⟨hk.2.1, ⟨hk.2.2.2.1, ⟨hk.2.2.2.2.1, ⟨hk.2.2.2.2.2.1, hk.2.2.2.2.2.2⟩⟩⟩⟩⟩⟩)⟩, ⟨by (with_reducible repeat (first | apply rA|apply rN|apply rD)); exact HO164.out⟩, ⟨by (with_reducible repeat (first | refine blk_drewN ?_ _ | refine blk_drew ?_ | refine blk_alloc ?_ _)); exact BK145.out⟩, ⟨by (with_reducible repeat (first | refine blk_drewN ?_ _ | refine blk_drew ?_ | refine blk_alloc ?_ _)); exact BK146.out⟩, ⟨by (with_reducible repeat (first | refine blk_drewN ?_ _ | refine blk_drew ?_ | refine blk_alloc ?_ _)); exact BK157.out⟩, ⟨by (with_reducible repeat (first | refine blk_drewN ?_ _ | refine blk_drew ?_ | refine blk_alloc ?_ _)); exact BK169.out⟩, ⟨by repeat (first | (with_reducible first | exact HB.out | apply bA|apply bN|apply bD | refine below_set ?_ GE145.out | refine below_set ?_ GE146.out | refine below_set ?_ GE157.out | refine below_set ?_ GE169.out) | exact HB.out)⟩⟩
            · rw [if_neg c43] at H
              have c43b0 : (t170 == 0) = false := beq_eq_false_iff_ne.mpr c43
              have c43b1 : (t170 != 0) = true := bne_iff_ne.mpr c43
              have H' := aS H
              clear H
              try go_wp2
              have n0_ : Aside0 (Kd.V (Kd.int .i64) 3 (((w34.setCell ⟨gb169, 0, none⟩ (.int .i64 t158)).setCell ⟨gb169, 1, none⟩ (.slice Ao39 t159.length co39)).setCell ⟨gb169, 2, none⟩ (.slice Ao40 t162.length co40)) w.heap.size (fun k_ => some k_ ≠ (.slice Ao30 t153.length co30 : Value).ownBlock ∧ some k_ ≠ (.slice Ao40 t162.length co40 : Value).ownBlock ∧ some k_ ≠ (v166 : Value).ownBlock ∧ k_ ≠ gb145 ∧ k_ ≠ gb146 ∧ k_ ≠ gb157 ∧ k_ ≠ gb169) (.slice Ao29 t150.length co29) t150) := ⟨by (with_reducible repeat (first | apply vA|apply vN|apply vD)); exact Kd.V_mono (Kd.V_far (p := ⟨gb169, 2, none⟩) (Kd.V_far (p := ⟨gb169, 1, none⟩) (Kd.V_far (p := ⟨gb169, 0, none⟩) (Kd.V_mono HO152.out (fun k_ hk => (⟨hk, hk.2⟩ : _ ∧ k_ ≠ gb169))) (fun _ hk => hk.2) (.int .i64 t158)) (fun _ hk => hk.2) (.slice Ao39 t159.length co39)) (fun _ hk => hk.2) (.slice Ao40 t162.length co40)) (fun _ hk => ⟨hk.1.1.1.1.1, ⟨hk.1.1.1.2, ⟨hk.1.1.2, ⟨hk.1.1.1.1.2.1, ⟨hk.1.1.1.1.2.2.1, ⟨hk.1.1.1.1.2.2.2, hk.1.2⟩⟩⟩⟩⟩⟩)⟩
              have n1_ : Aside0 (Kd.R k44 44 (((w34.setCell ⟨gb169, 0, none⟩ (.int .i64 t158)).setCell ⟨gb169, 1, none⟩ (.slice Ao39 t159.length co39)).setCell ⟨gb169, 2, none⟩ (.slice Ao40 t162.length co40)) w.heap.size (fun k_ => some k_ ≠ (.slice Ao40 t162.length co40 : Value).ownBlock) (.slice Ao30 t153.length co30) t153) := ⟨by (with_reducible repeat (first | apply rA|apply rN|apply rD)); exact Kd.R_mono (Kd.R_far (p := ⟨gb169, 2, none⟩) (Kd.R_far (p := ⟨gb169, 1, none⟩) (Kd.R_far (p := ⟨gb169, 0, none⟩) (Kd.R_types HO155.out BK169.out (by decide)) (fun _ hk => hk.2) (.int .i64 t158)) (fun _ hk => hk.2) (.slice Ao39 t159.length co39)) (fun _ hk => hk.2) (.slice Ao40 t162.length co40)) (fun _ hk => hk.1.2)⟩
              have n2_ : Aside0 (Kd.V (Kd.int .i64) 3 (((w34.setCell ⟨gb169, 0, none⟩ (.int .i64 t158)).setCell ⟨gb169, 1, none⟩ (.slice Ao39 t159.length co39)).setCell ⟨gb169, 2, none⟩ (.slice Ao40 t162.length co40)) w.heap.size (fun k_ => some k_ ≠ (.slice Ao30 t153.length co30 : Value).ownBlock ∧ some k_ ≠ (.slice Ao40 t162.length co40 : Value).ownBlock ∧ some k_ ≠ (v166 : Value).ownBlock ∧ k_ ≠ gb145 ∧ k_ ≠ gb146 ∧ k_ ≠ gb157 ∧ k_ ≠ gb169) (.slice Ao39 t159.length co39) t159) := ⟨by (with_reducible repeat (first | apply vA|apply vN|apply vD)); exact Kd.V_mono (Kd.V_far (p := ⟨gb169, 2, none⟩) (Kd.V_far (p := ⟨gb169, 1, none⟩) (Kd.V_far (p := ⟨gb169, 0, none⟩) (Kd.V_mono HO161.out (fun k_ hk => (⟨hk, hk.2⟩ : _ ∧ k_ ≠ gb169))) (fun _ hk => hk.2) (.int .i64 t158)) (fun _ hk => hk.2) (.slice Ao39 t159.length co39)) (fun _ hk => hk.2) (.slice Ao40 t162.length co40)) (fun _ hk => ⟨hk.1.1.2.2.1, ⟨hk.1.1.1, ⟨hk.1.1.2.1, ⟨hk.1.1.2.2.2.1, ⟨hk.1.1.2.2.2.2.1, ⟨hk.1.1.2.2.2.2.2, hk.1.2⟩⟩⟩⟩⟩⟩)⟩
              have n3_ : Aside0 (Kd.R k44 44 (((w34.setCell ⟨gb169, 0, none⟩ (.int .i64 t158)).setCell ⟨gb169, 1, none⟩ (.slice Ao39 t159.length co39)).setCell ⟨gb169, 2, none⟩ (.slice Ao40 t162.length co40)) w.heap.size (fun k_ => some k_ ≠ (.slice Ao30 t153.length co30 : Value).ownBlock) (.slice Ao40 t162.length co40) t162) := ⟨by (with_reducible repeat (first | apply rA|apply rN|apply rD)); exact Kd.R_mono (Kd.R_far (p := ⟨gb169, 2, none⟩) (Kd.R_far (p := ⟨gb169, 1, none⟩) (Kd.R_far (p := ⟨gb169, 0, none⟩) (Kd.R_types HO164.out BK169.out (by decide)) (fun _ hk => hk.2) (.int .i64 t158)) (fun _ hk => hk.2) (.slice Ao39 t159.length co39)) (fun _ hk => hk.2) (.slice Ao40 t162.length co40)) (fun _ hk => hk.1.2)⟩
              have n4_ : Aside0 (Kd.R k27 27 (((w34.setCell ⟨gb169, 0, none⟩ (.int .i64 t158)).setCell ⟨gb169, 1, none⟩ (.slice Ao39 t159.length co39)).setCell ⟨gb169, 2, none⟩ (.slice Ao40 t162.length co40)) w.heap.size (fun k_ => k_ ≠ gb146) v166 t165) := ⟨by (with_reducible repeat (first | apply rA|apply rN|apply rD)); exact Kd.R_mono (Kd.R_far (p := ⟨gb169, 2, none⟩) (Kd.R_far (p := ⟨gb169, 1, none⟩) (Kd.R_far (p := ⟨gb169, 0, none⟩) (Kd.R_types HO167.out BK169.out (by decide)) (fun _ hk => hk.2) (.int .i64 t158)) (fun _ hk => hk.2) (.slice Ao39 t159.length co39)) (fun _ hk => hk.2) (.slice Ao40 t162.length co40)) (fun _ hk => hk.1.2)⟩
              have n5_ : Aside0 ((((w34.setCell ⟨gb169, 0, none⟩ (.int .i64 t158)).setCell ⟨gb169, 1, none⟩ (.slice Ao39 t159.length co39)).setCell ⟨gb169, 2, none⟩ (.slice Ao40 t162.length co40)).heap[gb145]? = some (.cells #[.int .i64 a0_0, .slice A0_1 l0_1.length c0_1, .slice A0_2 l0_2.length c0_2] 25 (0, 0))) := ⟨by (with_reducible repeat (first | refine blk_drewN ?_ _ | refine blk_drew ?_ | refine blk_alloc ?_ _)); refine blk_far ?_ NB145_169.out _; (with_reducible repeat (first | refine blk_drewN ?_ _ | refine blk_drew ?_ | refine blk_alloc ?_ _)); refine blk_far ?_ NB145_169.out _; (with_reducible repeat (first | refine blk_drewN ?_ _ | refine blk_drew ?_ | refine blk_alloc ?_ _)); refine blk_far ?_ NB145_169.out _; (with_reducible repeat (first | refine blk_drewN ?_ _ | refine blk_drew ?_ | refine blk_alloc ?_ _)); exact BK145.out⟩
              have n6_ : Aside0 ((((w34.setCell ⟨gb169, 0, none⟩ (.int .i64 t158)).setCell ⟨gb169, 1, none⟩ (.slice Ao39 t159.length co39)).setCell ⟨gb169, 2, none⟩ (.slice Ao40 t162.length co40)).heap[gb146]? = some (.cells #[.int .i64 a1_0, .int .i64 a1_1, .string a1_2] 27 (0, 0))) := ⟨by (with_reducible repeat (first | refine blk_drewN ?_ _ | refine blk_drew ?_ | refine blk_alloc ?_ _)); refine blk_far ?_ NB146_169.out _; (with_reducible repeat (first | refine blk_drewN ?_ _ | refine blk_drew ?_ | refine blk_alloc ?_ _)); refine blk_far ?_ NB146_169.out _; (with_reducible repeat (first | refine blk_drewN ?_ _ | refine blk_drew ?_ | refine blk_alloc ?_ _)); refine blk_far ?_ NB146_169.out _; (with_reducible repeat (first | refine blk_drewN ?_ _ | refine blk_drew ?_ | refine blk_alloc ?_ _)); exact BK146.out⟩
              have n7_ : Aside0 ((((w34.setCell ⟨gb169, 0, none⟩ (.int .i64 t158)).setCell ⟨gb169, 1, none⟩ (.slice Ao39 t159.length co39)).setCell ⟨gb169, 2, none⟩ (.slice Ao40 t162.length co40)).heap[gb157]? = some (.cells #[.int .i64 t149, .slice Ao29 t150.length co29, .slice Ao30 t153.length co30] 25 (0, 0))) := ⟨by (with_reducible repeat (first | refine blk_drewN ?_ _ | refine blk_drew ?_ | refine blk_alloc ?_ _)); refine blk_far ?_ NB157_169.out _; (with_reducible repeat (first | refine blk_drewN ?_ _ | refine blk_drew ?_ | refine blk_alloc ?_ _)); refine blk_far ?_ NB157_169.out _; (with_reducible repeat (first | refine blk_drewN ?_ _ | refine blk_drew ?_ | refine blk_alloc ?_ _)); refine blk_far ?_ NB157_169.out _; (with_reducible repeat (first | refine blk_drewN ?_ _ | refine blk_drew ?_ | refine blk_alloc ?_ _)); exact BK157.out⟩
              have n8_ : Aside0 ((((w34.setCell ⟨gb169, 0, none⟩ (.int .i64 t158)).setCell ⟨gb169, 1, none⟩ (.slice Ao39 t159.length co39)).setCell ⟨gb169, 2, none⟩ (.slice Ao40 t162.length co40)).heap[gb169]? = some (.cells #[.int .i64 t158, .slice Ao39 t159.length co39, .slice Ao40 t162.length co40] 25 (0, 0))) := ⟨by (with_reducible repeat (first | refine blk_drewN ?_ _ | refine blk_drew ?_ | refine blk_alloc ?_ _)); refine blk_put (cs := #[.int .i64 t158, .slice Ao39 t159.length co39, .slice none 0 0]) ?_ 2 _ rfl; (with_reducible repeat (first | refine blk_drewN ?_ _ | refine blk_drew ?_ | refine blk_alloc ?_ _)); refine blk_put (cs := #[.int .i64 t158, .slice none 0 0, .slice none 0 0]) ?_ 1 _ rfl; (with_reducible repeat (first | refine blk_drewN ?_ _ | refine blk_drew ?_ | refine blk_alloc ?_ _)); refine blk_put (cs := #[.int .i64 0, .slice none 0 0, .slice none 0 0]) ?_ 0 _ rfl; (with_reducible repeat (first | refine blk_drewN ?_ _ | refine blk_drew ?_ | refine blk_alloc ?_ _)); exact BK169.out⟩
              have n9_ : Aside0 (Below w.heap.size w (((w34.setCell ⟨gb169, 0, none⟩ (.int .i64 t158)).setCell ⟨gb169, 1, none⟩ (.slice Ao39 t159.length co39)).setCell ⟨gb169, 2, none⟩ (.slice Ao40 t162.length co40))) := ⟨by repeat (first | (with_reducible first | exact HB.out | apply bA|apply bN|apply bD | refine below_set ?_ GE145.out | refine below_set ?_ GE146.out | refine below_set ?_ GE157.out | refine below_set ?_ GE169.out) | exact HB.out)⟩
              (try clear HO152)
              (try clear HO155)
              (try clear HO161)
              (try clear HO164)
              (try clear HO167)
              (try clear BK145)
              (try clear BK146)
              (try clear BK157)
              (try clear BK169)
              (try clear HB)
              generalize (((w34.setCell ⟨gb169, 0, none⟩ (.int .i64 t158)).setCell ⟨gb169, 1, none⟩ (.slice Ao39 t159.length co39)).setCell ⟨gb169, 2, none⟩ (.slice Ao40 t162.length co40)) = w59 at n0_ n1_ n2_ n3_ n4_ n5_ n6_ n7_ n8_ n9_ ⊢
              have HO152 := n0_
              have HO155 := n1_
              have HO161 := n2_
              have HO164 := n3_
              have HO167 := n4_
              have BK145 := n5_
              have BK146 := n6_
              have BK157 := n7_
              have BK169 := n8_
              have HB := n9_
              clear n0_ n1_ n2_ n3_ n4_ n5_ n6_ n7_ n8_ n9_
              have n0_ := aS (Kd.V_drew HO152.out)
              have n1_ := aS (Kd.R_drew HO155.out)
              have n2_ := aS (Kd.V_drew HO161.out)
              have n3_ := aS (Kd.R_drew HO164.out)
              have n4_ := aS (Kd.R_drew HO167.out)
              have n5_ := aS (blk_drew BK145.out)
              have n6_ := aS (blk_drew BK146.out)
              have n7_ := aS (blk_drew BK157.out)
              have n8_ := aS (blk_drew BK169.out)
              have n9_ := aS (below_drew1 HB.out)
              clear HO152
              clear HO155
              clear HO161
              clear HO164
              clear HO167
              clear BK145
              clear BK146
              clear BK157
              clear BK169
              clear HB
              have HO152 := n0_
              have HO155 := n1_
              have HO161 := n2_
              have HO164 := n3_
              have HO167 := n4_
              have BK145 := n5_
              have BK146 := n6_
              have BK157 := n7_
              have BK169 := n8_
              have HB := n9_
              clear n0_ n1_ n2_ n3_ n4_ n5_ n6_ n7_ n8_ n9_
              refine start_ (n := 35) (S := fun w' => w'.cell? ⟨gb157, 0, none⟩ = some (.int .i64 t149) ∧ w'.cell? ⟨gb157, 1, none⟩ = some (.slice Ao29 t150.length co29) ∧ w'.cell? ⟨gb157, 2, none⟩ = some (.slice Ao30 t153.length co30)) (ds := []) #[false, false, false, false, false, false, false, false, false, false, false, false, false, false, false, false, false, false, false, false, false, false, false, false, false, false, false, false, false, false, false, false, false, false, false] (by kernel_rfl) rfl rfl ⟨(blk_cell BK157.out 0).trans rfl, (blk_cell BK157.out 1).trans rfl, (blk_cell BK157.out 2).trans rfl⟩ (fun hHeld => ?_); refine with_tabW lookoutlaw50_NetworkValid.tab5 lookoutlaw50_NetworkValid.bits5 (fun HT_ HW_ => ?_)
              generalize w59.drew = w60 at HO152 HO155 HO161 HO164 HO167 BK145 BK146 BK157 BK169 HB hHeld ⊢
              refine pure_ (i := 0) (N := some 32) (v := ?_) (a' := ?_) #[true, false, false, false, false, false, false, false, false, false, false, false, false, false, false, false, false, false, false, false, false, false, false, false, false, false, false, false, false, false, false, false, false, false, false] rfl rfl (any_of HT_.out (by kernel_rfl)) (fun _ _ _ h => h) (Or.inl ⟨by rfl, ?_⟩) ?_ ?_
              rotate_left
              · intro w'
                go_simp
                with_reducible rfl
              rotate_left
              · simp only [Act.put, List.setIfInBounds_toArray, List.set_cons_zero, List.set_cons_succ, i64_w, i32_w]
                rfl
              refine pure_ (i := 1) (N := some 33) (v := ?_) (a' := ?_) #[true, true, false, false, false, false, false, false, false, false, false, false, false, false, false, false, false, false, false, false, false, false, false, false, false, false, false, false, false, false, false, false, false, false, false] rfl rfl (any_of HT_.out (by kernel_rfl)) (fun _ _ _ h => h) (Or.inl ⟨by rfl, ?_⟩) ?_ ?_
              rotate_left
              · intro w'
                go_simp
                with_reducible rfl
              rotate_left
              · simp only [Act.put, List.setIfInBounds_toArray, List.set_cons_zero, List.set_cons_succ, i64_w, i32_w]
                rfl
              refine pure_ (i := 2) (N := some 34) (v := ?_) (a' := ?_) #[true, true, true, false, false, false, false, false, false, false, false, false, false, false, false, false, false, false, false, false, false, false, false, false, false, false, false, false, false, false, false, false, false, false, false] rfl rfl (any_of HT_.out (by kernel_rfl)) (fun _ _ _ h => h) (Or.inl ⟨by rfl, ?_⟩) ?_ ?_
              rotate_left
              · intro w'
                go_simp
                with_reducible rfl
              rotate_left
              · simp only [Act.put, List.setIfInBounds_toArray, List.set_cons_zero, List.set_cons_succ, i64_w, i32_w]
                rfl
              refine take_ (i := 3) (N := some 35) (v := ?_) (a' := ?_) #[true, true, true, true, false, false, false, false, false, false, false, false, false, false, false, false, false, false, false, false, false, false, false, false, false, false, false, false, false, false, false, false, false, false, false] rfl rfl (take_ofW HT_.out HW_.out (by kernel_rfl)) (fun _ _ _ h => h) (Or.inl ⟨by rfl, ?_⟩) hHeld ?_ ?_
              rotate_left
              · rintro w' ⟨s0, s1, s2⟩
                go_simp
                with_reducible rfl
              rotate_left
              · simp only [Act.put, List.setIfInBounds_toArray, List.set_cons_zero, List.set_cons_succ, i64_w, i32_w]
                rfl
              refine one_ (i := 4) (N := some 36) #[true, true, true, true, true, false, false, false, false, false, false, false, false, false, false, false, false, false, false, false, false, false, false, false, false, false, false, false, false, false, false, false, false, false, false] rfl rfl (one_of HT_.out (by kernel_rfl)) (by decide) (fun K hK => ?_)
              refine goes_ Try.func15 (by kernel_rfl) rfl #[.agg #[.int .i64 t149, .slice Ao29 t150.length co29, .slice Ao30 t153.length co30]] (by rfl) rfl rfl (by (try simp only [List.map_toArray, List.map_cons, List.map_nil]); first | done | rfl | (simp only [List.length_drop, List.length_take]; rfl)) ?_
              with_reducible refine (network_Check.calls kj2 t149 _ _ t150 _ _ t153 t170 _ ?side1 ?side2 ?side3 ?side4 A42.out).mono ?_
              (case side1 => repeat (first | exact (Kd.V_reads' HO152.out).2.2 | (with_reducible refine Kd.C_alloc ?_ _) | (with_reducible refine Kd.C_drewN ?_ _) | (with_reducible refine Kd.C_drew ?_)))
              (case side2 => exact (Kd.V_reads' HO152.out).2.1)
              (case side3 => repeat (first | exact (Kd.R_reads' HO155.out).2.2 | (with_reducible refine Kd.C_alloc ?_ _) | (with_reducible refine Kd.C_drewN ?_ _) | (with_reducible refine Kd.C_drew ?_)))
              (case side4 => exact (Kd.R_reads' HO155.out).2.1)
              rintro e w61 ⟨rfl, hb⟩
              refine ⟨_, rfl, ?_⟩
              have n0_ := aS (Kd.V_below (by (with_reducible repeat (first | apply vA|apply vN|apply vD)); exact HO152.out) hb)
              have n1_ := aS (Kd.R_below (by (with_reducible repeat (first | apply rA|apply rN|apply rD)); exact HO155.out) hb)
              have n2_ := aS (Kd.V_below (by (with_reducible repeat (first | apply vA|apply vN|apply vD)); exact HO161.out) hb)
              have n3_ := aS (Kd.R_below (by (with_reducible repeat (first | apply rA|apply rN|apply rD)); exact HO164.out) hb)
              have n4_ := aS (Kd.R_below (by (with_reducible repeat (first | apply rA|apply rN|apply rD)); exact HO167.out) hb)
              have n5_ := aS (blk_below (g := gb145) (o := .cells #[.int .i64 a0_0, .slice A0_1 l0_1.length c0_1, .slice A0_2 l0_2.length c0_2] 25 (0, 0)) (by (with_reducible repeat (first | refine blk_drewN ?_ _ | refine blk_drew ?_ | refine blk_alloc ?_ _)); exact BK145.out) hb)
              have n6_ := aS (blk_below (g := gb146) (o := .cells #[.int .i64 a1_0, .int .i64 a1_1, .string a1_2] 27 (0, 0)) (by (with_reducible repeat (first | refine blk_drewN ?_ _ | refine blk_drew ?_ | refine blk_alloc ?_ _)); exact BK146.out) hb)
              have n7_ := aS (blk_below (g := gb157) (o := .cells #[.int .i64 t149, .slice Ao29 t150.length co29, .slice Ao30 t153.length co30] 25 (0, 0)) (by (with_reducible repeat (first | refine blk_drewN ?_ _ | refine blk_drew ?_ | refine blk_alloc ?_ _)); exact BK157.out) hb)
              have n8_ := aS (blk_below (g := gb169) (o := .cells #[.int .i64 t158, .slice Ao39 t159.length co39, .slice Ao40 t162.length co40] 25 (0, 0)) (by (with_reducible repeat (first | refine blk_drewN ?_ _ | refine blk_drew ?_ | refine blk_alloc ?_ _)); exact BK169.out) hb)
              have n9_ := aS (below_step (by repeat (first | (with_reducible first | exact HB.out | apply bA|apply bN|apply bD | refine below_set ?_ GE145.out | refine below_set ?_ GE146.out | refine below_set ?_ GE157.out | refine below_set ?_ GE169.out) | exact HB.out)) hb)
              clear HO152
              clear HO155
              clear HO161
              clear HO164
              clear HO167
              clear BK145
              clear BK146
              clear BK157
              clear BK169
              clear HB
              have HO152 := n0_
              have HO155 := n1_
              have HO161 := n2_
              have HO164 := n3_
              have HO167 := n4_
              have BK145 := n5_
              have BK146 := n6_
              have BK157 := n7_
              have BK169 := n8_
              have HB := n9_
              clear n0_ n1_ n2_ n3_ n4_ n5_ n6_ n7_ n8_ n9_
              (try clear hb)
              (try clear hb2)
              (try clear hk)
              (try clear hi)
              refine hK.out _ _ ⟨(blk_cell BK157.out 0).trans rfl, (blk_cell BK157.out 1).trans rfl, (blk_cell BK157.out 2).trans rfl⟩ (fun hHeld => ?_)
              clear hK K
              refine norm_ (a' := ?_) ?_ ?_
              rotate_left
              · show Act.put _ (some 36) _ = _
                simp only [Act.put, List.setIfInBounds_toArray, List.set_cons_zero, List.set_cons_succ, i64_w, i32_w]
                rfl
              refine pure_ (i := 5) (N := some 37) (v := ?_) (a' := ?_) #[true, true, true, true, true, true, false, false, false, false, false, false, false, false, false, false, false, false, false, false, false, false, false, false, false, false, false, false, false, false, false, false, false, false, false] rfl rfl (any_of HT_.out (by kernel_rfl)) (fun _ _ _ h => h) (Or.inl ⟨by rfl, ?_⟩) ?_ ?_
              rotate_left
              · intro w'
                go_simp
                with_reducible rfl
              rotate_left
              · simp only [Act.put, List.setIfInBounds_toArray, List.set_cons_zero, List.set_cons_succ, i64_w, i32_w]
                rfl
              refine pure_ (i := 6) (N := some 38) (v := ?_) (a' := ?_) #[true, true, true, true, true, true, true, false, false, false, false, false, false, false, false, false, false, false, false, false, false, false, false, false, false, false, false, false, false, false, false, false, false, false, false] rfl rfl (any_of HT_.out (by kernel_rfl)) (fun _ _ _ h => h) (Or.inl ⟨by rfl, ?_⟩) ?_ ?_
              rotate_left
              · intro w'
                go_simp
                with_reducible rfl
              rotate_left
              · simp only [Act.put, List.setIfInBounds_toArray, List.set_cons_zero, List.set_cons_succ, i64_w, i32_w]
                rfl
              refine pure_ (i := 7) (N := some 39) (v := undef) (a' := ?_) #[true, true, true, true, true, true, true, true, false, false, false, false, false, false, false, false, false, false, false, false, false, false, false, false, false, false, false, false, false, false, false, false, false, false, false] rfl rfl (any_of HT_.out (by kernel_rfl)) (fun _ _ _ h => h) (Or.inr ⟨by rfl, rfl⟩) ?_ ?_
              rotate_left
              · simp only [Act.put, List.setIfInBounds_toArray, List.set_cons_zero, List.set_cons_succ, i64_w, i32_w]
                rfl
              refine pure_ (i := 8) (N := some 40) (v := undef) (a' := ?_) #[true, true, true, true, true, true, true, true, true, false, false, false, false, false, false, false, false, false, false, false, false, false, false, false, false, false, false, false, false, false, false, false, false, false, false] rfl rfl (any_of HT_.out (by kernel_rfl)) (fun _ _ _ h => h) (Or.inr ⟨by rfl, rfl⟩) ?_ ?_
              rotate_left
              · simp only [Act.put, List.setIfInBounds_toArray, List.set_cons_zero, List.set_cons_succ, i64_w, i32_w]
                rfl
              refine pure_ (i := 9) (N := some 41) (v := undef) (a' := ?_) #[true, true, true, true, true, true, true, true, true, true, false, false, false, false, false, false, false, false, false, false, false, false, false, false, false, false, false, false, false, false, false, false, false, false, false] rfl rfl (any_of HT_.out (by kernel_rfl)) (fun _ _ _ h => h) (Or.inr ⟨by rfl, rfl⟩) ?_ ?_
              rotate_left
              · simp only [Act.put, List.setIfInBounds_toArray, List.set_cons_zero, List.set_cons_succ, i64_w, i32_w]
                rfl
              refine pure_ (i := 10) (N := some 42) (v := undef) (a' := ?_) #[true, true, true, true, true, true, true, true, true, true, true, false, false, false, false, false, false, false, false, false, false, false, false, false, false, false, false, false, false, false, false, false, false, false, false] rfl rfl (any_of HT_.out (by kernel_rfl)) (fun _ _ _ h => h) (Or.inr ⟨by rfl, rfl⟩) ?_ ?_
              rotate_left
              · simp only [Act.put, List.setIfInBounds_toArray, List.set_cons_zero, List.set_cons_succ, i64_w, i32_w]
                rfl
              refine pure_ (i := 11) (N := some 43) (v := undef) (a' := ?_) #[true, true, true, true, true, true, true, true, true, true, true, true, false, false, false, false, false, false, false, false, false, false, false, false, false, false, false, false, false, false, false, false, false, false, false] rfl rfl (any_of HT_.out (by kernel_rfl)) (fun _ _ _ h => h) (Or.inr ⟨by rfl, rfl⟩) ?_ ?_
              rotate_left
              · simp only [Act.put, List.setIfInBounds_toArray, List.set_cons_zero, List.set_cons_succ, i64_w, i32_w]
                rfl
              refine pure_ (i := 12) (N := some 44) (v := ?_) (a' := ?_) #[true, true, true, true, true, true, true, true, true, true, true, true, true, false, false, false, false, false, false, false, false, false, false, false, false, false, false, false, false, false, false, false, false, false, false] rfl rfl (any_of HT_.out (by kernel_rfl)) (fun _ _ _ h => h) (Or.inl ⟨by rfl, ?_⟩) ?_ ?_
              rotate_left
              · intro w'
                go_simp
                with_reducible rfl
              rotate_left
              · simp only [Act.put, List.setIfInBounds_toArray, List.set_cons_zero, List.set_cons_succ, i64_w, i32_w]
                rfl
              refine pure_ (i := 13) (N := some 45) (v := ?_) (a' := ?_) #[true, true, true, true, true, true, true, true, true, true, true, true, true, true, false, false, false, false, false, false, false, false, false, false, false, false, false, false, false, false, false, false, false, false, false] rfl rfl (any_of HT_.out (by kernel_rfl)) (fun _ _ _ h => h) (Or.inl ⟨by rfl, ?_⟩) ?_ ?_
              rotate_left
              · intro w'
                go_simp
                with_reducible rfl
              rotate_left
              · simp only [Act.put, List.setIfInBounds_toArray, List.set_cons_zero, List.set_cons_succ, i64_w, i32_w]
                rfl
              refine pure_ (i := 14) (N := some 46) (v := undef) (a' := ?_) #[true, true, true, true, true, true, true, true, true, true, true, true, true, true, true, false, false, false, false, false, false, false, false, false, false, false, false, false, false, false, false, false, false, false, false] rfl rfl (any_of HT_.out (by kernel_rfl)) (fun _ _ _ h => h) (Or.inr ⟨by rfl, rfl⟩) ?_ ?_
              rotate_left
              · simp only [Act.put, List.setIfInBounds_toArray, List.set_cons_zero, List.set_cons_succ, i64_w, i32_w]
                rfl
              refine pure_ (i := 15) (N := some 47) (v := undef) (a' := ?_) #[true, true, true, true, true, true, true, true, true, true, true, true, true, true, true, true, false, false, false, false, false, false, false, false, false, false, false, false, false, false, false, false, false, false, false] rfl rfl (any_of HT_.out (by kernel_rfl)) (fun _ _ _ h => h) (Or.inr ⟨by rfl, rfl⟩) ?_ ?_
              rotate_left
              · simp only [Act.put, List.setIfInBounds_toArray, List.set_cons_zero, List.set_cons_succ, i64_w, i32_w]
                rfl
              refine pure_ (i := 16) (N := some 48) (v := undef) (a' := ?_) #[true, true, true, true, true, true, true, true, true, true, true, true, true, true, true, true, true, false, false, false, false, false, false, false, false, false, false, false, false, false, false, false, false, false, false] rfl rfl (any_of HT_.out (by kernel_rfl)) (fun _ _ _ h => h) (Or.inr ⟨by rfl, rfl⟩) ?_ ?_
              rotate_left
              · simp only [Act.put, List.setIfInBounds_toArray, List.set_cons_zero, List.set_cons_succ, i64_w, i32_w]
                rfl
              refine pure_ (i := 17) (N := some 49) (v := undef) (a' := ?_) #[true, true, true, true, true, true, true, true, true, true, true, true, true, true, true, true, true, true, false, false, false, false, false, false, false, false, false, false, false, false, false, false, false, false, false] rfl rfl (any_of HT_.out (by kernel_rfl)) (fun _ _ _ h => h) (Or.inr ⟨by rfl, rfl⟩) ?_ ?_
              rotate_left
              · simp only [Act.put, List.setIfInBounds_toArray, List.set_cons_zero, List.set_cons_succ, i64_w, i32_w]
                rfl
              refine pure_ (i := 18) (N := some 50) (v := undef) (a' := ?_) #[true, true, true, true, true, true, true, true, true, true, true, true, true, true, true, true, true, true, true, false, false, false, false, false, false, false, false, false, false, false, false, false, false, false, false] rfl rfl (any_of HT_.out (by kernel_rfl)) (fun _ _ _ h => h) (Or.inr ⟨by rfl, rfl⟩) ?_ ?_
              rotate_left
              · simp only [Act.put, List.setIfInBounds_toArray, List.set_cons_zero, List.set_cons_succ, i64_w, i32_w]
                rfl
              refine pure_ (i := 19) (N := some 51) (v := undef) (a' := ?_) #[true, true, true, true, true, true, true, true, true, true, true, true, true, true, true, true, true, true, true, true, false, false, false, false, false, false, false, false, false, false, false, false, false, false, false] rfl rfl (any_of HT_.out (by kernel_rfl)) (fun _ _ _ h => h) (Or.inr ⟨by rfl, rfl⟩) ?_ ?_
              rotate_left
              · simp only [Act.put, List.setIfInBounds_toArray, List.set_cons_zero, List.set_cons_succ, i64_w, i32_w]
                rfl
              refine pure_ (i := 20) (N := some 52) (v := undef) (a' := ?_) #[true, true, true, true, true, true, true, true, true, true, true, true, true, true, true, true, true, true, true, true, true, false, false, false, false, false, false, false, false, false, false, false, false, false, false] rfl rfl (any_of HT_.out (by kernel_rfl)) (fun _ _ _ h => h) (Or.inr ⟨by rfl, rfl⟩) ?_ ?_
              rotate_left
              · simp only [Act.put, List.setIfInBounds_toArray, List.set_cons_zero, List.set_cons_succ, i64_w, i32_w]
                rfl
              refine pure_ (i := 21) (N := some 53) (v := ?_) (a' := ?_) #[true, true, true, true, true, true, true, true, true, true, true, true, true, true, true, true, true, true, true, true, true, true, false, false, false, false, false, false, false, false, false, false, false, false, false] rfl rfl (any_of HT_.out (by kernel_rfl)) (fun _ _ _ h => h) (Or.inl ⟨by rfl, ?_⟩) ?_ ?_
              rotate_left
              · intro w'
                go_simp
                with_reducible rfl
              rotate_left
              · simp only [Act.put, List.setIfInBounds_toArray, List.set_cons_zero, List.set_cons_succ, i64_w, i32_w]
                rfl
              refine pure_ (i := 22) (N := some 54) (v := ?_) (a' := ?_) #[true, true, true, true, true, true, true, true, true, true, true, true, true, true, true, true, true, true, true, true, true, true, true, false, false, false, false, false, false, false, false, false, false, false, false] rfl rfl (any_of HT_.out (by kernel_rfl)) (fun _ _ _ h => h) (Or.inl ⟨by rfl, ?_⟩) ?_ ?_
              rotate_left
              · intro w'
                go_simp
                with_reducible rfl
              rotate_left
              · simp only [Act.put, List.setIfInBounds_toArray, List.set_cons_zero, List.set_cons_succ, i64_w, i32_w]
                rfl
              refine pure_ (i := 23) (N := some 55) (v := undef) (a' := ?_) #[true, true, true, true, true, true, true, true, true, true, true, true, true, true, true, true, true, true, true, true, true, true, true, true, false, false, false, false, false, false, false, false, false, false, false] rfl rfl (any_of HT_.out (by kernel_rfl)) (fun _ _ _ h => h) (Or.inr ⟨by rfl, rfl⟩) ?_ ?_
              rotate_left
              · simp only [Act.put, List.setIfInBounds_toArray, List.set_cons_zero, List.set_cons_succ, i64_w, i32_w]
                rfl
              refine pure_ (i := 24) (N := some 56) (v := undef) (a' := ?_) #[true, true, true, true, true, true, true, true, true, true, true, true, true, true, true, true, true, true, true, true, true, true, true, true, true, false, false, false, false, false, false, false, false, false, false] rfl rfl (any_of HT_.out (by kernel_rfl)) (fun _ _ _ h => h) (Or.inr ⟨by rfl, rfl⟩) ?_ ?_
              rotate_left
              · simp only [Act.put, List.setIfInBounds_toArray, List.set_cons_zero, List.set_cons_succ, i64_w, i32_w]
                rfl
              refine pure_ (i := 25) (N := some 57) (v := undef) (a' := ?_) #[true, true, true, true, true, true, true, true, true, true, true, true, true, true, true, true, true, true, true, true, true, true, true, true, true, true, false, false, false, false, false, false, false, false, false] rfl rfl (any_of HT_.out (by kernel_rfl)) (fun _ _ _ h => h) (Or.inr ⟨by rfl, rfl⟩) ?_ ?_
              rotate_left
              · simp only [Act.put, List.setIfInBounds_toArray, List.set_cons_zero, List.set_cons_succ, i64_w, i32_w]
                rfl
              refine pure_ (i := 26) (N := some 58) (v := undef) (a' := ?_) #[true, true, true, true, true, true, true, true, true, true, true, true, true, true, true, true, true, true, true, true, true, true, true, true, true, true, true, false, false, false, false, false, false, false, false] rfl rfl (any_of HT_.out (by kernel_rfl)) (fun _ _ _ h => h) (Or.inr ⟨by rfl, rfl⟩) ?_ ?_
              rotate_left
              · simp only [Act.put, List.setIfInBounds_toArray, List.set_cons_zero, List.set_cons_succ, i64_w, i32_w]
                rfl
              refine pure_ (i := 27) (N := some 59) (v := undef) (a' := ?_) #[true, true, true, true, true, true, true, true, true, true, true, true, true, true, true, true, true, true, true, true, true, true, true, true, true, true, true, true, false, false, false, false, false, false, false] rfl rfl (any_of HT_.out (by kernel_rfl)) (fun _ _ _ h => h) (Or.inr ⟨by rfl, rfl⟩) ?_ ?_
              rotate_left
              · simp only [Act.put, List.setIfInBounds_toArray, List.set_cons_zero, List.set_cons_succ, i64_w, i32_w]
                rfl
              refine pure_ (i := 28) (N := some 60) (v := undef) (a' := ?_) #[true, true, true, true, true, true, true, true, true, true, true, true, true, true, true, true, true, true, true, true, true, true, true, true, true, true, true, true, true, false, false, false, false, false, false] rfl rfl (any_of HT_.out (by kernel_rfl)) (fun _ _ _ h => h) (Or.inr ⟨by rfl, rfl⟩) ?_ ?_
              rotate_left
              · simp only [Act.put, List.setIfInBounds_toArray, List.set_cons_zero, List.set_cons_succ, i64_w, i32_w]
                rfl
              refine pure_ (i := 29) (N := some 61) (v := undef) (a' := ?_) #[true, true, true, true, true, true, true, true, true, true, true, true, true, true, true, true, true, true, true, true, true, true, true, true, true, true, true, true, true, true, false, false, false, false, false] rfl rfl (any_of HT_.out (by kernel_rfl)) (fun _ _ _ h => h) (Or.inr ⟨by rfl, rfl⟩) ?_ ?_
              rotate_left
              · simp only [Act.put, List.setIfInBounds_toArray, List.set_cons_zero, List.set_cons_succ, i64_w, i32_w]
                rfl
              refine pure_ (i := 30) (N := some 62) (v := undef) (a' := ?_) #[true, true, true, true, true, true, true, true, true, true, true, true, true, true, true, true, true, true, true, true, true, true, true, true, true, true, true, true, true, true, true, false, false, false, false] rfl rfl (any_of HT_.out (by kernel_rfl)) (fun _ _ _ h => h) (Or.inr ⟨by rfl, rfl⟩) ?_ ?_
              rotate_left
              · simp only [Act.put, List.setIfInBounds_toArray, List.set_cons_zero, List.set_cons_succ, i64_w, i32_w]
                rfl
              refine pure_ (i := 31) (N := some 63) (v := undef) (a' := ?_) #[true, true, true, true, true, true, true, true, true, true, true, true, true, true, true, true, true, true, true, true, true, true, true, true, true, true, true, true, true, true, true, true, false, false, false] rfl rfl (any_of HT_.out (by kernel_rfl)) (fun _ _ _ h => h) (Or.inr ⟨by rfl, rfl⟩) ?_ ?_
              rotate_left
              · simp only [Act.put, List.setIfInBounds_toArray, List.set_cons_zero, List.set_cons_succ, i64_w, i32_w]
                rfl
              refine pure_ (i := 32) (N := some 64) (v := undef) (a' := ?_) #[true, true, true, true, true, true, true, true, true, true, true, true, true, true, true, true, true, true, true, true, true, true, true, true, true, true, true, true, true, true, true, true, true, false, false] rfl rfl (any_of HT_.out (by kernel_rfl)) (fun _ _ _ h => h) (Or.inr ⟨by rfl, rfl⟩) ?_ ?_
              rotate_left
              · simp only [Act.put, List.setIfInBounds_toArray, List.set_cons_zero, List.set_cons_succ, i64_w, i32_w]
                rfl
              refine pure_ (i := 33) (N := some 65) (v := ?_) (a' := ?_) #[true, true, true, true, true, true, true, true, true, true, true, true, true, true, true, true, true, true, true, true, true, true, true, true, true, true, true, true, true, true, true, true, true, true, false] rfl rfl (any_of HT_.out (by kernel_rfl)) (fun _ _ _ h => h) (Or.inl ⟨by rfl, ?_⟩) ?_ ?_
              rotate_left
              · intro w'
                go_simp
                with_reducible rfl
              rotate_left
              · simp only [Act.put, List.setIfInBounds_toArray, List.set_cons_zero, List.set_cons_succ, i64_w, i32_w]
                rfl
              refine pure_ (i := 34) (N := some 66) (v := ?_) (a' := ?_) #[true, true, true, true, true, true, true, true, true, true, true, true, true, true, true, true, true, true, true, true, true, true, true, true, true, true, true, true, true, true, true, true, true, true, true] rfl rfl (any_of HT_.out (by kernel_rfl)) (fun _ _ _ h => h) (Or.inl ⟨by rfl, ?_⟩) ?_ ?_
              rotate_left
              · intro w'
                go_simp
                with_reducible rfl
              rotate_left
              · simp only [Act.put, List.setIfInBounds_toArray, List.set_cons_zero, List.set_cons_succ, i64_w, i32_w]
                rfl
              refine done_ (done_of HT_.out (by kernel_rfl)) ?_
              try go_wp2
              go_meet
              case rel => exact ⟨_, (true), (by first | rfl | (simp; done) | (simp [*]; done)), H', ⟨by have := HJ2.out; first | omega | exact Nat.le_refl _⟩, ⟨by (with_reducible repeat (first | apply rA|apply rN|apply rD)); exact HO167.out⟩, ⟨by (with_reducible repeat (first | apply vA|apply vN|apply vD)); exact Kd.V_mono HO152.out (fun _ hk => ⟨hk.2.2.1, ⟨hk.1, ⟨hk.2.1, ⟨hk.2.2.2.1, ⟨hk.2.2.2.2.1, ⟨hk.2.2.2.2.2.1, hk.2.2.2.2.2.2⟩⟩⟩⟩⟩⟩)⟩, ⟨by (with_reducible repeat (first | apply rA|apply rN|apply rD)); exact HO155.out⟩, ⟨by (with_reducible repeat (first | apply vA|apply vN|apply vD)); exact Kd.V_mono HO161.out (fun _ hk => ⟨hk.2.2.1, ⟨hk.1, ⟨hk.2.1, ⟨hk.2.2.2.1, ⟨hk.2.2.2.2.1, ⟨hk.2.2.2.2.2.1, hk.2.2.2.2.2.2⟩⟩⟩⟩⟩⟩)⟩, ⟨by (with_reducible repeat (first | apply rA|apply rN|apply rD)); exact HO164.out⟩, ⟨by (with_reducible repeat (first | refine blk_drewN ?_ _ | refine blk_drew ?_ | refine blk_alloc ?_ _)); exact BK145.out⟩, ⟨by (with_reducible repeat (first | refine blk_drewN ?_ _ | refine blk_drew ?_ | refine blk_alloc ?_ _)); exact BK146.out⟩, ⟨by (with_reducible repeat (first | refine blk_drewN ?_ _ | refine blk_drew ?_ | refine blk_alloc ?_ _)); exact BK157.out⟩, ⟨by (with_reducible repeat (first | refine blk_drewN ?_ _ | refine blk_drew ?_ | refine blk_alloc ?_ _)); exact BK169.out⟩, ⟨by repeat (first | (with_reducible first | exact HB.out | apply bA|apply bN|apply bD | refine below_set ?_ GE145.out | refine below_set ?_ GE146.out | refine below_set ?_ GE157.out | refine below_set ?_ GE169.out) | exact HB.out)⟩⟩
          · rw [if_neg c41] at H
            have c41b0 : (t156 == 0) = false := beq_eq_false_iff_ne.mpr c41
            have c41b1 : (t156 != 0) = true := bne_iff_ne.mpr c41
            (first | rw [c41b0] | (simp only [i64_w, i32_w]; rw [c41b0]) | rw [c41b1] | (simp only [i64_w, i32_w]; rw [c41b1]) | skip)
            have H' := aS H
            clear H
            try go_wp2
            have n0_ : Aside0 (Kd.V (Kd.int .i64) 3 (((w34.setCell ⟨gb169, 0, none⟩ (.int .i64 t158)).setCell ⟨gb169, 1, none⟩ (.slice Ao39 t159.length co39)).setCell ⟨gb169, 2, none⟩ (.slice Ao40 t162.length co40)) w.heap.size (fun k_ => some k_ ≠ (.slice Ao30 t153.length co30 : Value).ownBlock ∧ some k_ ≠ (.slice Ao40 t162.length co40 : Value).ownBlock ∧ some k_ ≠ (v166 : Value).ownBlock ∧ k_ ≠ gb145 ∧ k_ ≠ gb146 ∧ k_ ≠ gb157 ∧ k_ ≠ gb169) (.slice Ao29 t150.length co29) t150) := ⟨by (with_reducible repeat (first | apply vA|apply vN|apply vD)); exact Kd.V_mono (Kd.V_far (p := ⟨gb169, 2, none⟩) (Kd.V_far (p := ⟨gb169, 1, none⟩) (Kd.V_far (p := ⟨gb169, 0, none⟩) (Kd.V_mono HO152.out (fun k_ hk => (⟨hk, hk.2⟩ : _ ∧ k_ ≠ gb169))) (fun _ hk => hk.2) (.int .i64 t158)) (fun _ hk => hk.2) (.slice Ao39 t159.length co39)) (fun _ hk => hk.2) (.slice Ao40 t162.length co40)) (fun _ hk => ⟨hk.1.1.1.1.1, ⟨hk.1.1.1.2, ⟨hk.1.1.2, ⟨hk.1.1.1.1.2.1, ⟨hk.1.1.1.1.2.2.1, ⟨hk.1.1.1.1.2.2.2, hk.1.2⟩⟩⟩⟩⟩⟩)⟩
            have n1_ : Aside0 (Kd.R k44 44 (((w34.setCell ⟨gb169, 0, none⟩ (.int .i64 t158)).setCell ⟨gb169, 1, none⟩ (.slice Ao39 t159.length co39)).setCell ⟨gb169, 2, none⟩ (.slice Ao40 t162.length co40)) w.heap.size (fun k_ => some k_ ≠ (.slice Ao40 t162.length co40 : Value).ownBlock) (.slice Ao30 t153.length co30) t153) := ⟨by (with_reducible repeat (first | apply rA|apply rN|apply rD)); exact Kd.R_mono (Kd.R_far (p := ⟨gb169, 2, none⟩) (Kd.R_far (p := ⟨gb169, 1, none⟩) (Kd.R_far (p := ⟨gb169, 0, none⟩) (Kd.R_types HO155.out BK169.out (by decide)) (fun _ hk => hk.2) (.int .i64 t158)) (fun _ hk => hk.2) (.slice Ao39 t159.length co39)) (fun _ hk => hk.2) (.slice Ao40 t162.length co40)) (fun _ hk => hk.1.2)⟩
            have n2_ : Aside0 (Kd.V (Kd.int .i64) 3 (((w34.setCell ⟨gb169, 0, none⟩ (.int .i64 t158)).setCell ⟨gb169, 1, none⟩ (.slice Ao39 t159.length co39)).setCell ⟨gb169, 2, none⟩ (.slice Ao40 t162.length co40)) w.heap.size (fun k_ => some k_ ≠ (.slice Ao30 t153.length co30 : Value).ownBlock ∧ some k_ ≠ (.slice Ao40 t162.length co40 : Value).ownBlock ∧ some k_ ≠ (v166 : Value).ownBlock ∧ k_ ≠ gb145 ∧ k_ ≠ gb146 ∧ k_ ≠ gb157 ∧ k_ ≠ gb169) (.slice Ao39 t159.length co39) t159) := ⟨by (with_reducible repeat (first | apply vA|apply vN|apply vD)); exact Kd.V_mono (Kd.V_far (p := ⟨gb169, 2, none⟩) (Kd.V_far (p := ⟨gb169, 1, none⟩) (Kd.V_far (p := ⟨gb169, 0, none⟩) (Kd.V_mono HO161.out (fun k_ hk => (⟨hk, hk.2⟩ : _ ∧ k_ ≠ gb169))) (fun _ hk => hk.2) (.int .i64 t158)) (fun _ hk => hk.2) (.slice Ao39 t159.length co39)) (fun _ hk => hk.2) (.slice Ao40 t162.length co40)) (fun _ hk => ⟨hk.1.1.2.2.1, ⟨hk.1.1.1, ⟨hk.1.1.2.1, ⟨hk.1.1.2.2.2.1, ⟨hk.1.1.2.2.2.2.1, ⟨hk.1.1.2.2.2.2.2, hk.1.2⟩⟩⟩⟩⟩⟩)⟩
            have n3_ : Aside0 (Kd.R k44 44 (((w34.setCell ⟨gb169, 0, none⟩ (.int .i64 t158)).setCell ⟨gb169, 1, none⟩ (.slice Ao39 t159.length co39)).setCell ⟨gb169, 2, none⟩ (.slice Ao40 t162.length co40)) w.heap.size (fun k_ => some k_ ≠ (.slice Ao30 t153.length co30 : Value).ownBlock) (.slice Ao40 t162.length co40) t162) := ⟨by (with_reducible repeat (first | apply rA|apply rN|apply rD)); exact Kd.R_mono (Kd.R_far (p := ⟨gb169, 2, none⟩) (Kd.R_far (p := ⟨gb169, 1, none⟩) (Kd.R_far (p := ⟨gb169, 0, none⟩) (Kd.R_types HO164.out BK169.out (by decide)) (fun _ hk => hk.2) (.int .i64 t158)) (fun _ hk => hk.2) (.slice Ao39 t159.length co39)) (fun _ hk => hk.2) (.slice Ao40 t162.length co40)) (fun _ hk => hk.1.2)⟩
            have n4_ : Aside0 (Kd.R k27 27 (((w34.setCell ⟨gb169, 0, none⟩ (.int .i64 t158)).setCell ⟨gb169, 1, none⟩ (.slice Ao39 t159.length co39)).setCell ⟨gb169, 2, none⟩ (.slice Ao40 t162.length co40)) w.heap.size (fun k_ => k_ ≠ gb146) v166 t165) := ⟨by (with_reducible repeat (first | apply rA|apply rN|apply rD)); exact Kd.R_mono (Kd.R_far (p := ⟨gb169, 2, none⟩) (Kd.R_far (p := ⟨gb169, 1, none⟩) (Kd.R_far (p := ⟨gb169, 0, none⟩) (Kd.R_types HO167.out BK169.out (by decide)) (fun _ hk => hk.2) (.int .i64 t158)) (fun _ hk => hk.2) (.slice Ao39 t159.length co39)) (fun _ hk => hk.2) (.slice Ao40 t162.length co40)) (fun _ hk => hk.1.2)⟩
            have n5_ : Aside0 ((((w34.setCell ⟨gb169, 0, none⟩ (.int .i64 t158)).setCell ⟨gb169, 1, none⟩ (.slice Ao39 t159.length co39)).setCell ⟨gb169, 2, none⟩ (.slice Ao40 t162.length co40)).heap[gb145]? = some (.cells #[.int .i64 a0_0, .slice A0_1 l0_1.length c0_1, .slice A0_2 l0_2.length c0_2] 25 (0, 0))) := ⟨by (with_reducible repeat (first | refine blk_drewN ?_ _ | refine blk_drew ?_ | refine blk_alloc ?_ _)); refine blk_far ?_ NB145_169.out _; (with_reducible repeat (first | refine blk_drewN ?_ _ | refine blk_drew ?_ | refine blk_alloc ?_ _)); refine blk_far ?_ NB145_169.out _; (with_reducible repeat (first | refine blk_drewN ?_ _ | refine blk_drew ?_ | refine blk_alloc ?_ _)); refine blk_far ?_ NB145_169.out _; (with_reducible repeat (first | refine blk_drewN ?_ _ | refine blk_drew ?_ | refine blk_alloc ?_ _)); exact BK145.out⟩
            have n6_ : Aside0 ((((w34.setCell ⟨gb169, 0, none⟩ (.int .i64 t158)).setCell ⟨gb169, 1, none⟩ (.slice Ao39 t159.length co39)).setCell ⟨gb169, 2, none⟩ (.slice Ao40 t162.length co40)).heap[gb146]? = some (.cells #[.int .i64 a1_0, .int .i64 a1_1, .string a1_2] 27 (0, 0))) := ⟨by (with_reducible repeat (first | refine blk_drewN ?_ _ | refine blk_drew ?_ | refine blk_alloc ?_ _)); refine blk_far ?_ NB146_169.out _; (with_reducible repeat (first | refine blk_drewN ?_ _ | refine blk_drew ?_ | refine blk_alloc ?_ _)); refine blk_far ?_ NB146_169.out _; (with_reducible repeat (first | refine blk_drewN ?_ _ | refine blk_drew ?_ | refine blk_alloc ?_ _)); refine blk_far ?_ NB146_169.out _; (with_reducible repeat (first | refine blk_drewN ?_ _ | refine blk_drew ?_ | refine blk_alloc ?_ _)); exact BK146.out⟩
            have n7_ : Aside0 ((((w34.setCell ⟨gb169, 0, none⟩ (.int .i64 t158)).setCell ⟨gb169, 1, none⟩ (.slice Ao39 t159.length co39)).setCell ⟨gb169, 2, none⟩ (.slice Ao40 t162.length co40)).heap[gb157]? = some (.cells #[.int .i64 t149, .slice Ao29 t150.length co29, .slice Ao30 t153.length co30] 25 (0, 0))) := ⟨by (with_reducible repeat (first | refine blk_drewN ?_ _ | refine blk_drew ?_ | refine blk_alloc ?_ _)); refine blk_far ?_ NB157_169.out _; (with_reducible repeat (first | refine blk_drewN ?_ _ | refine blk_drew ?_ | refine blk_alloc ?_ _)); refine blk_far ?_ NB157_169.out _; (with_reducible repeat (first | refine blk_drewN ?_ _ | refine blk_drew ?_ | refine blk_alloc ?_ _)); refine blk_far ?_ NB157_169.out _; (with_reducible repeat (first | refine blk_drewN ?_ _ | refine blk_drew ?_ | refine blk_alloc ?_ _)); exact BK157.out⟩
            have n8_ : Aside0 ((((w34.setCell ⟨gb169, 0, none⟩ (.int .i64 t158)).setCell ⟨gb169, 1, none⟩ (.slice Ao39 t159.length co39)).setCell ⟨gb169, 2, none⟩ (.slice Ao40 t162.length co40)).heap[gb169]? = some (.cells #[.int .i64 t158, .slice Ao39 t159.length co39, .slice Ao40 t162.length co40] 25 (0, 0))) := ⟨by (with_reducible repeat (first | refine blk_drewN ?_ _ | refine blk_drew ?_ | refine blk_alloc ?_ _)); refine blk_put (cs := #[.int .i64 t158, .slice Ao39 t159.length co39, .slice none 0 0]) ?_ 2 _ rfl; (with_reducible repeat (first | refine blk_drewN ?_ _ | refine blk_drew ?_ | refine blk_alloc ?_ _)); refine blk_put (cs := #[.int .i64 t158, .slice none 0 0, .slice none 0 0]) ?_ 1 _ rfl; (with_reducible repeat (first | refine blk_drewN ?_ _ | refine blk_drew ?_ | refine blk_alloc ?_ _)); refine blk_put (cs := #[.int .i64 0, .slice none 0 0, .slice none 0 0]) ?_ 0 _ rfl; (with_reducible repeat (first | refine blk_drewN ?_ _ | refine blk_drew ?_ | refine blk_alloc ?_ _)); exact BK169.out⟩
            have n9_ : Aside0 (Below w.heap.size w (((w34.setCell ⟨gb169, 0, none⟩ (.int .i64 t158)).setCell ⟨gb169, 1, none⟩ (.slice Ao39 t159.length co39)).setCell ⟨gb169, 2, none⟩ (.slice Ao40 t162.length co40))) := ⟨by repeat (first | (with_reducible first | exact HB.out | apply bA|apply bN|apply bD | refine below_set ?_ GE145.out | refine below_set ?_ GE146.out | refine below_set ?_ GE157.out | refine below_set ?_ GE169.out) | exact HB.out)⟩
            (try clear HO152)
            (try clear HO155)
            (try clear HO161)
            (try clear HO164)
            (try clear HO167)
            (try clear BK145)
            (try clear BK146)
            (try clear BK157)
            (try clear BK169)
            (try clear HB)
            generalize (((w34.setCell ⟨gb169, 0, none⟩ (.int .i64 t158)).setCell ⟨gb169, 1, none⟩ (.slice Ao39 t159.length co39)).setCell ⟨gb169, 2, none⟩ (.slice Ao40 t162.length co40)) = w62 at n0_ n1_ n2_ n3_ n4_ n5_ n6_ n7_ n8_ n9_ ⊢
            have HO152 := n0_
            have HO155 := n1_
            have HO161 := n2_
            have HO164 := n3_
            have HO167 := n4_
            have BK145 := n5_
            have BK146 := n6_
            have BK157 := n7_
            have BK169 := n8_
            have HB := n9_
            clear n0_ n1_ n2_ n3_ n4_ n5_ n6_ n7_ n8_ n9_
            have n0_ := aS (Kd.V_drew HO152.out)
            have n1_ := aS (Kd.R_drew HO155.out)
            have n2_ := aS (Kd.V_drew HO161.out)
            have n3_ := aS (Kd.R_drew HO164.out)
            have n4_ := aS (Kd.R_drew HO167.out)
            have n5_ := aS (blk_drew BK145.out)
            have n6_ := aS (blk_drew BK146.out)
            have n7_ := aS (blk_drew BK157.out)
            have n8_ := aS (blk_drew BK169.out)
            have n9_ := aS (below_drew1 HB.out)
            clear HO152
            clear HO155
            clear HO161
            clear HO164
            clear HO167
            clear BK145
            clear BK146
            clear BK157
            clear BK169
            clear HB
            have HO152 := n0_
            have HO155 := n1_
            have HO161 := n2_
            have HO164 := n3_
            have HO167 := n4_
            have BK145 := n5_
            have BK146 := n6_
            have BK157 := n7_
            have BK169 := n8_
            have HB := n9_
            clear n0_ n1_ n2_ n3_ n4_ n5_ n6_ n7_ n8_ n9_
            refine start_ (n := 35) (S := fun w' => True) (ds := []) #[false, false, false, false, false, false, false, false, false, false, false, false, false, false, false, false, false, false, false, false, false, false, false, false, false, false, false, false, false, false, false, false, false, false, false] (by kernel_rfl) rfl rfl trivial (fun hHeld => ?_); refine with_tabW lookoutlaw50_NetworkValid.tab5 lookoutlaw50_NetworkValid.bits5 (fun HT_ HW_ => ?_)
            generalize w62.drew = w63 at HO152 HO155 HO161 HO164 HO167 BK145 BK146 BK157 BK169 HB hHeld ⊢
            refine pure_ (i := 0) (N := some 32) (v := ?_) (a' := ?_) #[true, false, false, false, false, false, false, false, false, false, false, false, false, false, false, false, false, false, false, false, false, false, false, false, false, false, false, false, false, false, false, false, false, false, false] rfl rfl (any_of HT_.out (by kernel_rfl)) (fun _ _ _ h => h) (Or.inl ⟨by rfl, ?_⟩) ?_ ?_
            rotate_left
            · intro w'
              go_simp
              with_reducible rfl
            rotate_left
            · simp only [Act.put, List.setIfInBounds_toArray, List.set_cons_zero, List.set_cons_succ, i64_w, i32_w]
              rfl
            refine pure_ (i := 1) (N := some 33) (v := ?_) (a' := ?_) #[true, true, false, false, false, false, false, false, false, false, false, false, false, false, false, false, false, false, false, false, false, false, false, false, false, false, false, false, false, false, false, false, false, false, false] rfl rfl (any_of HT_.out (by kernel_rfl)) (fun _ _ _ h => h) (Or.inl ⟨by rfl, ?_⟩) ?_ ?_
            rotate_left
            · intro w'
              go_simp
              with_reducible rfl
            rotate_left
            · simp only [Act.put, List.setIfInBounds_toArray, List.set_cons_zero, List.set_cons_succ, i64_w, i32_w]
              rfl
            refine pure_ (i := 2) (N := some 34) (v := ?_) (a' := ?_) #[true, true, true, false, false, false, false, false, false, false, false, false, false, false, false, false, false, false, false, false, false, false, false, false, false, false, false, false, false, false, false, false, false, false, false] rfl rfl (any_of HT_.out (by kernel_rfl)) (fun _ _ _ h => h) (Or.inl ⟨by rfl, ?_⟩) ?_ ?_
            rotate_left
            · intro w'
              go_simp
              with_reducible rfl
            rotate_left
            · simp only [Act.put, List.setIfInBounds_toArray, List.set_cons_zero, List.set_cons_succ, i64_w, i32_w]
              rfl
            refine pure_ (i := 3) (N := some 35) (v := undef) (a' := ?_) #[true, true, true, true, false, false, false, false, false, false, false, false, false, false, false, false, false, false, false, false, false, false, false, false, false, false, false, false, false, false, false, false, false, false, false] rfl rfl (any_of HT_.out (by kernel_rfl)) (fun _ _ _ h => h) (Or.inr ⟨by rfl, rfl⟩) ?_ ?_
            rotate_left
            · simp only [Act.put, List.setIfInBounds_toArray, List.set_cons_zero, List.set_cons_succ, i64_w, i32_w]
              rfl
            refine pure_ (i := 4) (N := some 36) (v := undef) (a' := ?_) #[true, true, true, true, true, false, false, false, false, false, false, false, false, false, false, false, false, false, false, false, false, false, false, false, false, false, false, false, false, false, false, false, false, false, false] rfl rfl (any_of HT_.out (by kernel_rfl)) (fun _ _ _ h => h) (Or.inr ⟨by rfl, rfl⟩) ?_ ?_
            rotate_left
            · simp only [Act.put, List.setIfInBounds_toArray, List.set_cons_zero, List.set_cons_succ, i64_w, i32_w]
              rfl
            refine pure_ (i := 5) (N := some 37) (v := undef) (a' := ?_) #[true, true, true, true, true, true, false, false, false, false, false, false, false, false, false, false, false, false, false, false, false, false, false, false, false, false, false, false, false, false, false, false, false, false, false] rfl rfl (any_of HT_.out (by kernel_rfl)) (fun _ _ _ h => h) (Or.inr ⟨by rfl, rfl⟩) ?_ ?_
            rotate_left
            · simp only [Act.put, List.setIfInBounds_toArray, List.set_cons_zero, List.set_cons_succ, i64_w, i32_w]
              rfl
            refine pure_ (i := 6) (N := some 38) (v := undef) (a' := ?_) #[true, true, true, true, true, true, true, false, false, false, false, false, false, false, false, false, false, false, false, false, false, false, false, false, false, false, false, false, false, false, false, false, false, false, false] rfl rfl (any_of HT_.out (by kernel_rfl)) (fun _ _ _ h => h) (Or.inr ⟨by rfl, rfl⟩) ?_ ?_
            rotate_left
            · simp only [Act.put, List.setIfInBounds_toArray, List.set_cons_zero, List.set_cons_succ, i64_w, i32_w]
              rfl
            refine pure_ (i := 7) (N := some 39) (v := undef) (a' := ?_) #[true, true, true, true, true, true, true, true, false, false, false, false, false, false, false, false, false, false, false, false, false, false, false, false, false, false, false, false, false, false, false, false, false, false, false] rfl rfl (any_of HT_.out (by kernel_rfl)) (fun _ _ _ h => h) (Or.inr ⟨by rfl, rfl⟩) ?_ ?_
            rotate_left
            · simp only [Act.put, List.setIfInBounds_toArray, List.set_cons_zero, List.set_cons_succ, i64_w, i32_w]
              rfl
            refine pure_ (i := 8) (N := some 40) (v := undef) (a' := ?_) #[true, true, true, true, true, true, true, true, true, false, false, false, false, false, false, false, false, false, false, false, false, false, false, false, false, false, false, false, false, false, false, false, false, false, false] rfl rfl (any_of HT_.out (by kernel_rfl)) (fun _ _ _ h => h) (Or.inr ⟨by rfl, rfl⟩) ?_ ?_
            rotate_left
            · simp only [Act.put, List.setIfInBounds_toArray, List.set_cons_zero, List.set_cons_succ, i64_w, i32_w]
              rfl
            refine pure_ (i := 9) (N := some 41) (v := undef) (a' := ?_) #[true, true, true, true, true, true, true, true, true, true, false, false, false, false, false, false, false, false, false, false, false, false, false, false, false, false, false, false, false, false, false, false, false, false, false] rfl rfl (any_of HT_.out (by kernel_rfl)) (fun _ _ _ h => h) (Or.inr ⟨by rfl, rfl⟩) ?_ ?_
            rotate_left
            · simp only [Act.put, List.setIfInBounds_toArray, List.set_cons_zero, List.set_cons_succ, i64_w, i32_w]
              rfl
            refine pure_ (i := 10) (N := some 42) (v := undef) (a' := ?_) #[true, true, true, true, true, true, true, true, true, true, true, false, false, false, false, false, false, false, false, false, false, false, false, false, false, false, false, false, false, false, false, false, false, false, false] rfl rfl (any_of HT_.out (by kernel_rfl)) (fun _ _ _ h => h) (Or.inr ⟨by rfl, rfl⟩) ?_ ?_
            rotate_left
            · simp only [Act.put, List.setIfInBounds_toArray, List.set_cons_zero, List.set_cons_succ, i64_w, i32_w]
              rfl
            refine pure_ (i := 11) (N := some 43) (v := undef) (a' := ?_) #[true, true, true, true, true, true, true, true, true, true, true, true, false, false, false, false, false, false, false, false, false, false, false, false, false, false, false, false, false, false, false, false, false, false, false] rfl rfl (any_of HT_.out (by kernel_rfl)) (fun _ _ _ h => h) (Or.inr ⟨by rfl, rfl⟩) ?_ ?_
            rotate_left
            · simp only [Act.put, List.setIfInBounds_toArray, List.set_cons_zero, List.set_cons_succ, i64_w, i32_w]
              rfl
            refine pure_ (i := 12) (N := some 44) (v := undef) (a' := ?_) #[true, true, true, true, true, true, true, true, true, true, true, true, true, false, false, false, false, false, false, false, false, false, false, false, false, false, false, false, false, false, false, false, false, false, false] rfl rfl (any_of HT_.out (by kernel_rfl)) (fun _ _ _ h => h) (Or.inr ⟨by rfl, rfl⟩) ?_ ?_
            rotate_left
            · simp only [Act.put, List.setIfInBounds_toArray, List.set_cons_zero, List.set_cons_succ, i64_w, i32_w]
              rfl
            refine pure_ (i := 13) (N := some 45) (v := undef) (a' := ?_) #[true, true, true, true, true, true, true, true, true, true, true, true, true, true, false, false, false, false, false, false, false, false, false, false, false, false, false, false, false, false, false, false, false, false, false] rfl rfl (any_of HT_.out (by kernel_rfl)) (fun _ _ _ h => h) (Or.inr ⟨by rfl, rfl⟩) ?_ ?_
            rotate_left
            · simp only [Act.put, List.setIfInBounds_toArray, List.set_cons_zero, List.set_cons_succ, i64_w, i32_w]
              rfl
            refine pure_ (i := 14) (N := some 46) (v := undef) (a' := ?_) #[true, true, true, true, true, true, true, true, true, true, true, true, true, true, true, false, false, false, false, false, false, false, false, false, false, false, false, false, false, false, false, false, false, false, false] rfl rfl (any_of HT_.out (by kernel_rfl)) (fun _ _ _ h => h) (Or.inr ⟨by rfl, rfl⟩) ?_ ?_
            rotate_left
            · simp only [Act.put, List.setIfInBounds_toArray, List.set_cons_zero, List.set_cons_succ, i64_w, i32_w]
              rfl
            refine pure_ (i := 15) (N := some 47) (v := undef) (a' := ?_) #[true, true, true, true, true, true, true, true, true, true, true, true, true, true, true, true, false, false, false, false, false, false, false, false, false, false, false, false, false, false, false, false, false, false, false] rfl rfl (any_of HT_.out (by kernel_rfl)) (fun _ _ _ h => h) (Or.inr ⟨by rfl, rfl⟩) ?_ ?_
            rotate_left
            · simp only [Act.put, List.setIfInBounds_toArray, List.set_cons_zero, List.set_cons_succ, i64_w, i32_w]
              rfl
            refine pure_ (i := 16) (N := some 48) (v := undef) (a' := ?_) #[true, true, true, true, true, true, true, true, true, true, true, true, true, true, true, true, true, false, false, false, false, false, false, false, false, false, false, false, false, false, false, false, false, false, false] rfl rfl (any_of HT_.out (by kernel_rfl)) (fun _ _ _ h => h) (Or.inr ⟨by rfl, rfl⟩) ?_ ?_
            rotate_left
            · simp only [Act.put, List.setIfInBounds_toArray, List.set_cons_zero, List.set_cons_succ, i64_w, i32_w]
              rfl
            refine pure_ (i := 17) (N := some 49) (v := undef) (a' := ?_) #[true, true, true, true, true, true, true, true, true, true, true, true, true, true, true, true, true, true, false, false, false, false, false, false, false, false, false, false, false, false, false, false, false, false, false] rfl rfl (any_of HT_.out (by kernel_rfl)) (fun _ _ _ h => h) (Or.inr ⟨by rfl, rfl⟩) ?_ ?_
            rotate_left
            · simp only [Act.put, List.setIfInBounds_toArray, List.set_cons_zero, List.set_cons_succ, i64_w, i32_w]
              rfl
            refine pure_ (i := 18) (N := some 50) (v := undef) (a' := ?_) #[true, true, true, true, true, true, true, true, true, true, true, true, true, true, true, true, true, true, true, false, false, false, false, false, false, false, false, false, false, false, false, false, false, false, false] rfl rfl (any_of HT_.out (by kernel_rfl)) (fun _ _ _ h => h) (Or.inr ⟨by rfl, rfl⟩) ?_ ?_
            rotate_left
            · simp only [Act.put, List.setIfInBounds_toArray, List.set_cons_zero, List.set_cons_succ, i64_w, i32_w]
              rfl
            refine pure_ (i := 19) (N := some 51) (v := undef) (a' := ?_) #[true, true, true, true, true, true, true, true, true, true, true, true, true, true, true, true, true, true, true, true, false, false, false, false, false, false, false, false, false, false, false, false, false, false, false] rfl rfl (any_of HT_.out (by kernel_rfl)) (fun _ _ _ h => h) (Or.inr ⟨by rfl, rfl⟩) ?_ ?_
            rotate_left
            · simp only [Act.put, List.setIfInBounds_toArray, List.set_cons_zero, List.set_cons_succ, i64_w, i32_w]
              rfl
            refine pure_ (i := 20) (N := some 52) (v := undef) (a' := ?_) #[true, true, true, true, true, true, true, true, true, true, true, true, true, true, true, true, true, true, true, true, true, false, false, false, false, false, false, false, false, false, false, false, false, false, false] rfl rfl (any_of HT_.out (by kernel_rfl)) (fun _ _ _ h => h) (Or.inr ⟨by rfl, rfl⟩) ?_ ?_
            rotate_left
            · simp only [Act.put, List.setIfInBounds_toArray, List.set_cons_zero, List.set_cons_succ, i64_w, i32_w]
              rfl
            refine pure_ (i := 21) (N := some 53) (v := undef) (a' := ?_) #[true, true, true, true, true, true, true, true, true, true, true, true, true, true, true, true, true, true, true, true, true, true, false, false, false, false, false, false, false, false, false, false, false, false, false] rfl rfl (any_of HT_.out (by kernel_rfl)) (fun _ _ _ h => h) (Or.inr ⟨by rfl, rfl⟩) ?_ ?_
            rotate_left
            · simp only [Act.put, List.setIfInBounds_toArray, List.set_cons_zero, List.set_cons_succ, i64_w, i32_w]
              rfl
            refine pure_ (i := 22) (N := some 54) (v := undef) (a' := ?_) #[true, true, true, true, true, true, true, true, true, true, true, true, true, true, true, true, true, true, true, true, true, true, true, false, false, false, false, false, false, false, false, false, false, false, false] rfl rfl (any_of HT_.out (by kernel_rfl)) (fun _ _ _ h => h) (Or.inr ⟨by rfl, rfl⟩) ?_ ?_
            rotate_left
            · simp only [Act.put, List.setIfInBounds_toArray, List.set_cons_zero, List.set_cons_succ, i64_w, i32_w]
              rfl
            refine pure_ (i := 23) (N := some 55) (v := undef) (a' := ?_) #[true, true, true, true, true, true, true, true, true, true, true, true, true, true, true, true, true, true, true, true, true, true, true, true, false, false, false, false, false, false, false, false, false, false, false] rfl rfl (any_of HT_.out (by kernel_rfl)) (fun _ _ _ h => h) (Or.inr ⟨by rfl, rfl⟩) ?_ ?_
            rotate_left
            · simp only [Act.put, List.setIfInBounds_toArray, List.set_cons_zero, List.set_cons_succ, i64_w, i32_w]
              rfl
            refine pure_ (i := 24) (N := some 56) (v := undef) (a' := ?_) #[true, true, true, true, true, true, true, true, true, true, true, true, true, true, true, true, true, true, true, true, true, true, true, true, true, false, false, false, false, false, false, false, false, false, false] rfl rfl (any_of HT_.out (by kernel_rfl)) (fun _ _ _ h => h) (Or.inr ⟨by rfl, rfl⟩) ?_ ?_
            rotate_left
            · simp only [Act.put, List.setIfInBounds_toArray, List.set_cons_zero, List.set_cons_succ, i64_w, i32_w]
              rfl
            refine pure_ (i := 25) (N := some 57) (v := undef) (a' := ?_) #[true, true, true, true, true, true, true, true, true, true, true, true, true, true, true, true, true, true, true, true, true, true, true, true, true, true, false, false, false, false, false, false, false, false, false] rfl rfl (any_of HT_.out (by kernel_rfl)) (fun _ _ _ h => h) (Or.inr ⟨by rfl, rfl⟩) ?_ ?_
            rotate_left
            · simp only [Act.put, List.setIfInBounds_toArray, List.set_cons_zero, List.set_cons_succ, i64_w, i32_w]
              rfl
            refine pure_ (i := 26) (N := some 58) (v := undef) (a' := ?_) #[true, true, true, true, true, true, true, true, true, true, true, true, true, true, true, true, true, true, true, true, true, true, true, true, true, true, true, false, false, false, false, false, false, false, false] rfl rfl (any_of HT_.out (by kernel_rfl)) (fun _ _ _ h => h) (Or.inr ⟨by rfl, rfl⟩) ?_ ?_
            rotate_left
            · simp only [Act.put, List.setIfInBounds_toArray, List.set_cons_zero, List.set_cons_succ, i64_w, i32_w]
              rfl
            refine pure_ (i := 27) (N := some 59) (v := undef) (a' := ?_) #[true, true, true, true, true, true, true, true, true, true, true, true, true, true, true, true, true, true, true, true, true, true, true, true, true, true, true, true, false, false, false, false, false, false, false] rfl rfl (any_of HT_.out (by kernel_rfl)) (fun _ _ _ h => h) (Or.inr ⟨by rfl, rfl⟩) ?_ ?_
            rotate_left
            · simp only [Act.put, List.setIfInBounds_toArray, List.set_cons_zero, List.set_cons_succ, i64_w, i32_w]
              rfl
            refine pure_ (i := 28) (N := some 60) (v := undef) (a' := ?_) #[true, true, true, true, true, true, true, true, true, true, true, true, true, true, true, true, true, true, true, true, true, true, true, true, true, true, true, true, true, false, false, false, false, false, false] rfl rfl (any_of HT_.out (by kernel_rfl)) (fun _ _ _ h => h) (Or.inr ⟨by rfl, rfl⟩) ?_ ?_
            rotate_left
            · simp only [Act.put, List.setIfInBounds_toArray, List.set_cons_zero, List.set_cons_succ, i64_w, i32_w]
              rfl
            refine pure_ (i := 29) (N := some 61) (v := undef) (a' := ?_) #[true, true, true, true, true, true, true, true, true, true, true, true, true, true, true, true, true, true, true, true, true, true, true, true, true, true, true, true, true, true, false, false, false, false, false] rfl rfl (any_of HT_.out (by kernel_rfl)) (fun _ _ _ h => h) (Or.inr ⟨by rfl, rfl⟩) ?_ ?_
            rotate_left
            · simp only [Act.put, List.setIfInBounds_toArray, List.set_cons_zero, List.set_cons_succ, i64_w, i32_w]
              rfl
            refine pure_ (i := 30) (N := some 62) (v := undef) (a' := ?_) #[true, true, true, true, true, true, true, true, true, true, true, true, true, true, true, true, true, true, true, true, true, true, true, true, true, true, true, true, true, true, true, false, false, false, false] rfl rfl (any_of HT_.out (by kernel_rfl)) (fun _ _ _ h => h) (Or.inr ⟨by rfl, rfl⟩) ?_ ?_
            rotate_left
            · simp only [Act.put, List.setIfInBounds_toArray, List.set_cons_zero, List.set_cons_succ, i64_w, i32_w]
              rfl
            refine pure_ (i := 31) (N := some 63) (v := undef) (a' := ?_) #[true, true, true, true, true, true, true, true, true, true, true, true, true, true, true, true, true, true, true, true, true, true, true, true, true, true, true, true, true, true, true, true, false, false, false] rfl rfl (any_of HT_.out (by kernel_rfl)) (fun _ _ _ h => h) (Or.inr ⟨by rfl, rfl⟩) ?_ ?_
            rotate_left
            · simp only [Act.put, List.setIfInBounds_toArray, List.set_cons_zero, List.set_cons_succ, i64_w, i32_w]
              rfl
            refine pure_ (i := 32) (N := some 64) (v := undef) (a' := ?_) #[true, true, true, true, true, true, true, true, true, true, true, true, true, true, true, true, true, true, true, true, true, true, true, true, true, true, true, true, true, true, true, true, true, false, false] rfl rfl (any_of HT_.out (by kernel_rfl)) (fun _ _ _ h => h) (Or.inr ⟨by rfl, rfl⟩) ?_ ?_
            rotate_left
            · simp only [Act.put, List.setIfInBounds_toArray, List.set_cons_zero, List.set_cons_succ, i64_w, i32_w]
              rfl
            refine pure_ (i := 33) (N := some 65) (v := undef) (a' := ?_) #[true, true, true, true, true, true, true, true, true, true, true, true, true, true, true, true, true, true, true, true, true, true, true, true, true, true, true, true, true, true, true, true, true, true, false] rfl rfl (any_of HT_.out (by kernel_rfl)) (fun _ _ _ h => h) (Or.inr ⟨by rfl, rfl⟩) ?_ ?_
            rotate_left
            · simp only [Act.put, List.setIfInBounds_toArray, List.set_cons_zero, List.set_cons_succ, i64_w, i32_w]
              rfl
            refine pure_ (i := 34) (N := some 66) (v := ?_) (a' := ?_) #[true, true, true, true, true, true, true, true, true, true, true, true, true, true, true, true, true, true, true, true, true, true, true, true, true, true, true, true, true, true, true, true, true, true, true] rfl rfl (any_of HT_.out (by kernel_rfl)) (fun _ _ _ h => h) (Or.inl ⟨by rfl, ?_⟩) ?_ ?_
            rotate_left
            · intro w'
              go_simp
              with_reducible rfl
            rotate_left
            · simp only [Act.put, List.setIfInBounds_toArray, List.set_cons_zero, List.set_cons_succ, i64_w, i32_w]
              rfl
            refine done_ (done_of HT_.out (by kernel_rfl)) ?_
            try go_wp2
            go_meet
            case rel => exact ⟨_, (false), (by first | rfl | (simp; done) | (simp [*]; done)), H', ⟨by have := HJ2.out; first | omega | exact Nat.le_refl _⟩, ⟨by (with_reducible repeat (first | apply rA|apply rN|apply rD)); exact HO167.out⟩, ⟨by (with_reducible repeat (first | apply vA|apply vN|apply vD)); exact Kd.V_mono HO152.out (fun _ hk => ⟨hk.2.2.1, ⟨hk.1, ⟨hk.2.1, ⟨hk.2.2.2.1, ⟨hk.2.2.2.2.1, ⟨hk.2.2.2.2.2.1, hk.2.2.2.2.2.2⟩⟩⟩⟩⟩⟩)⟩, ⟨by (with_reducible repeat (first | apply rA|apply rN|apply rD)); exact HO155.out⟩, ⟨by (with_reducible repeat (first | apply vA|apply vN|apply vD)); exact Kd.V_mono HO161.out (fun _ hk => ⟨hk.2.2.1, ⟨hk.1, ⟨hk.2.1, ⟨hk.2.2.2.1, ⟨hk.2.2.2.2.1, ⟨hk.2.2.2.2.2.1, hk.2.2.2.2.2.2⟩⟩⟩⟩⟩⟩)⟩, ⟨by (with_reducible repeat (first | apply rA|apply rN|apply rD)); exact HO164.out⟩, ⟨by (with_reducible repeat (first | refine blk_drewN ?_ _ | refine blk_drew ?_ | refine blk_alloc ?_ _)); exact BK145.out⟩, ⟨by (with_reducible repeat (first | refine blk_drewN ?_ _ | refine blk_drew ?_ | refine blk_alloc ?_ _)); exact BK146.out⟩, ⟨by (with_reducible repeat (first | refine blk_drewN ?_ _ | refine blk_drew ?_ | refine blk_alloc ?_ _)); exact BK157.out⟩, ⟨by (with_reducible repeat (first | refine blk_drewN ?_ _ | refine blk_drew ?_ | refine blk_alloc ?_ _)); exact BK169.out⟩, ⟨by repeat (first | (with_reducible first | exact HB.out | apply bA|apply bN|apply bD | refine below_set ?_ GE145.out | refine below_set ?_ GE146.out | refine below_set ?_ GE157.out | refine below_set ?_ GE169.out) | exact HB.out)⟩⟩
        case rest =>
          clear HC20
          try clear c1
          try clear p2
          try clear c4
          try clear c15
          try clear c41
          try clear c41b0
          try clear c41b1
          try clear c43
          try clear c43b0
          try clear c43b1
          obtain ⟨kq, x66_19, rfl, HA, HJ19, HO_8, HO_158001, HO_158002, HO_170001, HO_170002, BK145, BK146, BK157, BK169, HB⟩ := hcut
          cases kq with
          | zero => exact absurd HA.out (by simp [lookoutlaw50_NetworkValid.j1])
          | succ kj19 =>
            have H := HA.out
            clear HA
            simp only [lookoutlaw50_NetworkValid.j1] at H
            by_cases c64 : x66_19 = true
            · subst c64
              have H1 : (none) = some r := by rw [if_pos rfl] at H; exact H
              clear H
              have H := H1
              clear H1
              exact absurd H (by simp)
            · replace c64 := Bool.eq_false_iff.mpr c64
              subst c64
              have H1 : (if t168 = 0 then ((clone_flight.f l0_2).bind fun t177 => ((delete_due.f t177 a0_0 l0_1 l0_2).bind fun t180 => ((network_Check.f kj19 t158 t159 t162).bind fun t183 => (if t183 = 0 then (if t158 = (wrap64 (a0_0 + 1)) then ((api_Flight_28.f kj19 t162 t180).bind fun t184 => (if t184 = true then (if (t165.length : Int) = (wrap64 ((l0_2.length : Int) - (t180.length : Int))) then ((slices_Equal_int_int.f kj19 t159 l0_1).bind fun t185 => (if t185 = true then ((lookoutlaw50_awake.f kj19).bind fun t186 => (some t186)) else (none))) else (none)) else (none))) else (none)) else (none))))) else (if (t165.length : Int) = 0 then ((lookoutlaw50_awake.f kj19).bind fun t176 => (some t176)) else (none))) = some r := by rw [if_neg (show ¬ (false = true) by decide)] at H; exact H
              clear H
              have H := H1
              clear H1
              by_cases c65 : t168 = 0
              · rw [if_pos c65] at H
                have c65b0 : (t168 == 0) = true := beq_iff_eq.mpr c65
                have c65b1 : (t168 != 0) = false := bne_eq_false_iff_eq.mpr c65
                clear c65
                replace H := Option.bind_eq_some_iff.mp H
                obtain ⟨t177, A660, H⟩ := H
                replace H : ((delete_due.f t177 a0_0 l0_1 l0_2).bind fun t180 => ((network_Check.f kj19 t158 t159 t162).bind fun t183 => (if t183 = 0 then (if t158 = (wrap64 (a0_0 + 1)) then ((api_Flight_28.f kj19 t162 t180).bind fun t184 => (if t184 = true then (if (t165.length : Int) = (wrap64 ((l0_2.length : Int) - (t180.length : Int))) then ((slices_Equal_int_int.f kj19 t159 l0_1).bind fun t185 => (if t185 = true then ((lookoutlaw50_awake.f kj19).bind fun t186 => (some t186)) else (none))) else (none)) else (none))) else (none)) else (none)))) = some r := H
                have A66 := aS A660
                clear A660
                replace H := Option.bind_eq_some_iff.mp H
                obtain ⟨t180, A670, H⟩ := H
                replace H : ((network_Check.f kj19 t158 t159 t162).bind fun t183 => (if t183 = 0 then (if t158 = (wrap64 (a0_0 + 1)) then ((api_Flight_28.f kj19 t162 t180).bind fun t184 => (if t184 = true then (if (t165.length : Int) = (wrap64 ((l0_2.length : Int) - (t180.length : Int))) then ((slices_Equal_int_int.f kj19 t159 l0_1).bind fun t185 => (if t185 = true then ((lookoutlaw50_awake.f kj19).bind fun t186 => (some t186)) else (none))) else (none)) else (none))) else (none)) else (none))) = some r := H
                have A67 := aS A670
                clear A670
                replace H := Option.bind_eq_some_iff.mp H
                obtain ⟨t183, A680, H⟩ := H
                replace H : (if t183 = 0 then (if t158 = (wrap64 (a0_0 + 1)) then ((api_Flight_28.f kj19 t162 t180).bind fun t184 => (if t184 = true then (if (t165.length : Int) = (wrap64 ((l0_2.length : Int) - (t180.length : Int))) then ((slices_Equal_int_int.f kj19 t159 l0_1).bind fun t185 => (if t185 = true then ((lookoutlaw50_awake.f kj19).bind fun t186 => (some t186)) else (none))) else (none)) else (none))) else (none)) else (none)) = some r := H
                have A68 := aS A680
                clear A680
                by_cases c69 : t183 = 0
                · rw [if_pos c69] at H
                  have c69b0 : (t183 == 0) = true := beq_iff_eq.mpr c69
                  have c69b1 : (t183 != 0) = false := bne_eq_false_iff_eq.mpr c69
                  clear c69
                  by_cases c70 : t158 = (wrap64 (a0_0 + 1))
                  · rw [if_pos c70] at H
                    have c70b0 : (t158 == (wrap64 (a0_0 + 1))) = true := beq_iff_eq.mpr c70
                    have c70b1 : (t158 != (wrap64 (a0_0 + 1))) = false := bne_eq_false_iff_eq.mpr c70
                    clear c70
                    replace H := Option.bind_eq_some_iff.mp H
                    obtain ⟨t184, A710, H⟩ := H
                    replace H : (if t184 = true then (if (t165.length : Int) = (wrap64 ((l0_2.length : Int) - (t180.length : Int))) then ((slices_Equal_int_int.f kj19 t159 l0_1).bind fun t185 => (if t185 = true then ((lookoutlaw50_awake.f kj19).bind fun t186 => (some t186)) else (none))) else (none)) else (none)) = some r := H
                    have A71 := aS A710
                    clear A710
                    by_cases c72 : t184 = true
                    · subst c72
                      have H1 : (if (t165.length : Int) = (wrap64 ((l0_2.length : Int) - (t180.length : Int))) then ((slices_Equal_int_int.f kj19 t159 l0_1).bind fun t185 => (if t185 = true then ((lookoutlaw50_awake.f kj19).bind fun t186 => (some t186)) else (none))) else (none)) = some r := by rw [if_pos rfl] at H; exact H
                      clear H
                      have H := H1
                      clear H1
                      by_cases c73 : (t165.length : Int) = (wrap64 ((l0_2.length : Int) - (t180.length : Int)))
                      · rw [if_pos c73] at H
                        have c73b0 : ((t165.length : Int) == (wrap64 ((l0_2.length : Int) - (t180.length : Int)))) = true := beq_iff_eq.mpr c73
                        have c73b1 : ((t165.length : Int) != (wrap64 ((l0_2.length : Int) - (t180.length : Int)))) = false := bne_eq_false_iff_eq.mpr c73
                        clear c73
                        replace H := Option.bind_eq_some_iff.mp H
                        obtain ⟨t185, A740, H⟩ := H
                        replace H : (if t185 = true then ((lookoutlaw50_awake.f kj19).bind fun t186 => (some t186)) else (none)) = some r := H
                        have A74 := aS A740
                        clear A740
                        by_cases c75 : t185 = true
                        · subst c75
                          have H1 : ((lookoutlaw50_awake.f kj19).bind fun t186 => (some t186)) = some r := by rw [if_pos rfl] at H; exact H
                          clear H
                          have H := H1
                          clear H1
                          replace H := Option.bind_eq_some_iff.mp H
                          obtain ⟨t186, A760, H⟩ := H
                          replace H : (some t186) = some r := H
                          have A76 := aS A760
                          clear A760
                          obtain rfl := Option.some.inj H
                          have hnb77 := NB145_146.out
                          have hnc77 := NB146_145.out
                          have hnb78 := NB145_157.out
                          have hnc78 := NB157_145.out
                          have hnb79 := NB145_169.out
                          have hnc79 := NB169_145.out
                          have hcz80_0 : wc.cell? ⟨gb145, 0, none⟩ = some (.int .i64 a0_0) := (blk_cell BK145.out 0).trans rfl
                          have hcz80_1 : wc.cell? ⟨gb145, 1, none⟩ = some (.slice A0_1 l0_1.length c0_1) := (blk_cell BK145.out 1).trans rfl
                          have hcz80_2 : wc.cell? ⟨gb145, 2, none⟩ = some (.slice A0_2 l0_2.length c0_2) := (blk_cell BK145.out 2).trans rfl
                          have hfz80_0 := blk_frozen BK145.out 0
                          have hfz80_1 := blk_frozen BK145.out 1
                          have hfz80_2 := blk_frozen BK145.out 2
                          go_wp2_with (first | ((with_reducible refine gate_callee (f := 30) rfl ?_);refine goesL_ (some 77) rfl rfl Try.func30 (by kernel_rfl) rfl #[.slice A0_2 l0_2.length c0_2] rfl (by (try simp only [List.map_toArray, List.map_cons, List.map_nil]);first | done | rfl | (simp only [List.length_drop, List.length_take];rfl)) ?_;(with_reducible refine (clone_flight.calls _ _ l0_2 t177 _ ?side1 ?side2 A66.out).mono ?_);(case side1 => repeat (first | exact (Kd.C_below HR0_2.out HB.out) | (with_reducible refine Kd.C_alloc ?_ _) | (with_reducible refine Kd.C_drewN ?_ _) | (with_reducible refine Kd.C_drew ?_)));(case side2 => exact HC0_2.out);rintro e w81 ⟨v178, rfl, ho0, hb⟩;refine ⟨_, rfl, ?_⟩;have n0_ := aS (Kd.R_below (by (with_reducible repeat (first | apply rA|apply rN|apply rD));exact HO_8.out) hb);have n1_ := aS (Kd.V_elder' (by (with_reducible repeat (first | apply vA|apply vN|apply vD));exact HO_158001.out) (Kd.R_base ho0) hb);have n2_ := aS (Kd.R_elder' (by (with_reducible repeat (first | apply rA|apply rN|apply rD));exact HO_158002.out) (Kd.R_base ho0) hb);have n3_ := aS (Kd.V_elder' (by (with_reducible repeat (first | apply vA|apply vN|apply vD));exact HO_170001.out) (Kd.R_base ho0) hb);have n4_ := aS (Kd.R_elder' (by (with_reducible repeat (first | apply rA|apply rN|apply rD));exact HO_170002.out) (Kd.R_base ho0) hb);have n5_ := aS (Kd.R_lower (Kd.R_new' (Kd.R_new' ho0 (Kd.R_lt (by (with_reducible repeat (first | apply rA|apply rN|apply rD));exact HO_158002.out))) (Kd.R_lt (by (with_reducible repeat (first | apply rA|apply rN|apply rD));exact HO_170002.out))) (below_size (by repeat (first | (with_reducible first | exact HB.out | apply bA|apply bN|apply bD | refine below_set ?_ GE145.out | refine below_set ?_ GE146.out | refine below_set ?_ GE157.out | refine below_set ?_ GE169.out) | exact HB.out))));have n6_ := aS (blk_below (g := gb145) (o := .cells #[.int .i64 a0_0, .slice A0_1 l0_1.length c0_1, .slice A0_2 l0_2.length c0_2] 25 (0, 0)) (by (with_reducible repeat (first | refine blk_drewN ?_ _ | refine blk_drew ?_ | refine blk_alloc ?_ _));exact BK145.out) hb);have n7_ := aS (blk_below (g := gb146) (o := .cells #[.int .i64 a1_0, .int .i64 a1_1, .string a1_2] 27 (0, 0)) (by (with_reducible repeat (first | refine blk_drewN ?_ _ | refine blk_drew ?_ | refine blk_alloc ?_ _));exact BK146.out) hb);have n8_ := aS (blk_below (g := gb157) (o := .cells #[.int .i64 t149, .slice Ao29 t150.length co29, .slice Ao30 t153.length co30] 25 (0, 0)) (by (with_reducible repeat (first | refine blk_drewN ?_ _ | refine blk_drew ?_ | refine blk_alloc ?_ _));exact BK157.out) hb);have n9_ := aS (blk_below (g := gb169) (o := .cells #[.int .i64 t158, .slice Ao39 t159.length co39, .slice Ao40 t162.length co40] 25 (0, 0)) (by (with_reducible repeat (first | refine blk_drewN ?_ _ | refine blk_drew ?_ | refine blk_alloc ?_ _));exact BK169.out) hb);have n10_ := aS (below_step (by repeat (first | (with_reducible first | exact HB.out | apply bA|apply bN|apply bD | refine below_set ?_ GE145.out | refine below_set ?_ GE146.out | refine below_set ?_ GE157.out | refine below_set ?_ GE169.out) | exact HB.out)) hb);clear HO_8 HO_158001 HO_158002 HO_170001 HO_170002 BK145 BK146 BK157 BK169 HB;have HO_8 := n0_;have HO_158001 := n1_;have HO_158002 := n2_;have HO_170001 := n3_;have HO_170002 := n4_;have HO179 := n5_;have BK145 := n6_;have BK146 := n7_;have BK157 := n8_;have BK169 := n9_;have HB := n10_;clear n0_ n1_ n2_ n3_ n4_ n5_ n6_ n7_ n8_ n9_ n10_;(try clear hb);(try clear hb2);(try clear hk);(try clear hi);(try clear ho0);have hcz82_0 : w81.cell? ⟨gb145, 0, none⟩ = some (.int .i64 a0_0) := (blk_cell BK145.out 0).trans rfl;have hcz82_1 : w81.cell? ⟨gb145, 1, none⟩ = some (.slice A0_1 l0_1.length c0_1) := (blk_cell BK145.out 1).trans rfl;have hcz82_2 : w81.cell? ⟨gb145, 2, none⟩ = some (.slice A0_2 l0_2.length c0_2) := (blk_cell BK145.out 2).trans rfl;have hfz82_0 := blk_frozen BK145.out 0;have hfz82_1 := blk_frozen BK145.out 1;have hfz82_2 := blk_frozen BK145.out 2;obtain ⟨Ao83, co83, eo83⟩ := Kd.R_slice HO179.out;subst eo83) | ((with_reducible refine gate_callee (f := 29) rfl ?_);refine goesL_ (some 79) rfl rfl Try.func29 (by kernel_rfl) rfl #[.slice Ao83 t177.length co83, .func (.func 31) #[] #[.pointer (some ⟨gb145, 0, none⟩)]] rfl (by (try simp only [List.map_toArray, List.map_cons, List.map_nil]);first | done | rfl | (simp only [List.length_drop, List.length_take];rfl)) ?_;(with_reducible refine (delete_due.calls (fun k_ => some k_ = (.slice Ao83 t177.length co83 : Value).ownBlock) (.slice Ao83 t177.length co83) t177 a0_0 A0_1 c0_1 l0_1 A0_2 c0_2 l0_2 t180 w _ _ ?sideb ?side1 ?side2 A67.out).mono ?_); (case sideb => (with_reducible repeat (first | refine blk_drewN ?_ _ | refine blk_drew ?_ | refine blk_alloc ?_ _)); exact BK145.out);(case side1 => repeat (first | (with_reducible first | exact HB.out | apply bA|apply bN|apply bD | refine below_set ?_ GE145.out | refine below_set ?_ GE146.out | refine below_set ?_ GE157.out | refine below_set ?_ GE169.out) | exact HB.out));(case side2 => exact Kd.R_tight rfl HO179.out);rintro e w84 ⟨v181, rfl, ho0, hb, hkp⟩;refine ⟨_, rfl, ?_⟩;have n0_ := aS (Kd.R_mono (ok' := fun k_ => k_ ≠ gb146) (Kd.R_keptB ((Kd.R_apart' HO_8.out (Kd.R_typed HO179.out) (by decide))) hkp (fun k_ hk_ hs_ => (hk_.2) hs_)) (fun k_ hk_ => hk_.1.1));have n1_ := aS (Kd.V_mono (ok' := fun k_ => some k_ ≠ (v166 : Value).ownBlock ∧ some k_ ≠ (.slice Ao30 t153.length co30 : Value).ownBlock ∧ some k_ ≠ (.slice Ao40 t162.length co40 : Value).ownBlock ∧ k_ ≠ gb145 ∧ k_ ≠ gb146 ∧ k_ ≠ gb157 ∧ k_ ≠ gb169 ∧ some k_ ≠ (v181 : Value).ownBlock) (Kd.V_keptB (HO_158001.out) hkp (fun k_ hk_ hs_ => (hk_.2) hs_)) (fun k_ hk_ => ⟨hk_.1.1.1, hk_.1.1.2.1, hk_.1.1.2.2.1, hk_.1.1.2.2.2.1, hk_.1.1.2.2.2.2.1, hk_.1.1.2.2.2.2.2.1, hk_.1.1.2.2.2.2.2.2, fun e_ => Or.elim (ho0.1 k_ e_.symm) (fun hs_ => hk_.2.1 hs_) (fun hn_ => Nat.not_le.2 hk_.2.2 hn_)⟩));have n2_ := aS (Kd.R_mono (ok' := fun k_ => some k_ ≠ (.slice Ao40 t162.length co40 : Value).ownBlock ∧ some k_ ≠ (v181 : Value).ownBlock) (Kd.R_keptB (HO_158002.out) hkp (fun k_ hk_ hs_ => (hk_.2) hs_)) (fun k_ hk_ => ⟨hk_.1.1, fun e_ => Or.elim (ho0.1 k_ e_.symm) (fun hs_ => hk_.2.1 hs_) (fun hn_ => Nat.not_le.2 hk_.2.2 hn_)⟩));have n3_ := aS (Kd.V_mono (ok' := fun k_ => some k_ ≠ (v166 : Value).ownBlock ∧ some k_ ≠ (.slice Ao30 t153.length co30 : Value).ownBlock ∧ some k_ ≠ (.slice Ao40 t162.length co40 : Value).ownBlock ∧ k_ ≠ gb145 ∧ k_ ≠ gb146 ∧ k_ ≠ gb157 ∧ k_ ≠ gb169 ∧ some k_ ≠ (v181 : Value).ownBlock) (Kd.V_keptB (HO_170001.out) hkp (fun k_ hk_ hs_ => (hk_.2) hs_)) (fun k_ hk_ => ⟨hk_.1.1.1, hk_.1.1.2.1, hk_.1.1.2.2.1, hk_.1.1.2.2.2.1, hk_.1.1.2.2.2.2.1, hk_.1.1.2.2.2.2.2.1, hk_.1.1.2.2.2.2.2.2, fun e_ => Or.elim (ho0.1 k_ e_.symm) (fun hs_ => hk_.2.1 hs_) (fun hn_ => Nat.not_le.2 hk_.2.2 hn_)⟩));have n4_ := aS (Kd.R_mono (ok' := fun k_ => some k_ ≠ (.slice Ao30 t153.length co30 : Value).ownBlock ∧ some k_ ≠ (v181 : Value).ownBlock) (Kd.R_keptB (HO_170002.out) hkp (fun k_ hk_ hs_ => (hk_.2) hs_)) (fun k_ hk_ => ⟨hk_.1.1, fun e_ => Or.elim (ho0.1 k_ e_.symm) (fun hs_ => hk_.2.1 hs_) (fun hn_ => Nat.not_le.2 hk_.2.2 hn_)⟩));have n5_ := aS (blk_kept (by (with_reducible repeat (first | refine blk_drewN ?_ _ | refine blk_drew ?_ | refine blk_alloc ?_ _));exact BK145.out) hkp (fun hs_ => (fun e_ => (Kd.R_ne HO179.out BK145.out (by decide)) e_) hs_));have n6_ := aS (blk_kept (by (with_reducible repeat (first | refine blk_drewN ?_ _ | refine blk_drew ?_ | refine blk_alloc ?_ _));exact BK146.out) hkp (fun hs_ => (fun e_ => (Kd.R_ne HO179.out BK146.out (by decide)) e_) hs_));have n7_ := aS (blk_kept (by (with_reducible repeat (first | refine blk_drewN ?_ _ | refine blk_drew ?_ | refine blk_alloc ?_ _));exact BK157.out) hkp (fun hs_ => (fun e_ => (Kd.R_ne HO179.out BK157.out (by decide)) e_) hs_));have n8_ := aS (blk_kept (by (with_reducible repeat (first | refine blk_drewN ?_ _ | refine blk_drew ?_ | refine blk_alloc ?_ _));exact BK169.out) hkp (fun hs_ => (fun e_ => (Kd.R_ne HO179.out BK169.out (by decide)) e_) hs_));have n9_ := aS (Kd.R_mono (ok' := fun k_ => some k_ ≠ (.slice Ao30 t153.length co30 : Value).ownBlock ∧ some k_ ≠ (.slice Ao40 t162.length co40 : Value).ownBlock) ho0 (fun k_ hk_ => ⟨Or.elim hk_ (fun hs_ => fun e_ => (((HO_158002.out).1 k_ e_.symm).2) hs_) (fun hn_ => (Kd.fresh' (Kd.R_lt (by (with_reducible repeat (first | apply rA|apply rN|apply rD));exact HO_158002.out)) k_ hn_)), Or.elim hk_ (fun hs_ => fun e_ => (((HO_170002.out).1 k_ e_.symm).2) hs_) (fun hn_ => (Kd.fresh' (Kd.R_lt (by (with_reducible repeat (first | apply rA|apply rN|apply rD));exact HO_170002.out)) k_ hn_))⟩));have n10_ := aS (hb);clear HO_8 HO_158001 HO_158002 HO_170001 HO_170002 BK145 BK146 BK157 BK169 HB HO179;have HO_8 := n0_;have HO_158001 := n1_;have HO_158002 := n2_;have HO_170001 := n3_;have HO_170002 := n4_;have BK145 := n5_;have BK146 := n6_;have BK157 := n7_;have BK169 := n8_;have HO182 := n9_;have HB := n10_;clear n0_ n1_ n2_ n3_ n4_ n5_ n6_ n7_ n8_ n9_ n10_;(try clear hb);(try clear hkp);(try clear ho0);have hnb85 := NB169_146.out;have hnc85 := NB146_169.out;have hnb86 := NB169_157.out;have hnc86 := NB157_169.out;have hcz87_0 : w84.cell? ⟨gb169, 0, none⟩ = some (.int .i64 t158) := (blk_cell BK169.out 0).trans rfl;have hcz87_1 : w84.cell? ⟨gb169, 1, none⟩ = some (.slice Ao39 t159.length co39) := (blk_cell BK169.out 1).trans rfl;have hcz87_2 : w84.cell? ⟨gb169, 2, none⟩ = some (.slice Ao40 t162.length co40) := (blk_cell BK169.out 2).trans rfl;have hfz87_0 := blk_frozen BK169.out 0;have hfz87_1 := blk_frozen BK169.out 1;have hfz87_2 := blk_frozen BK169.out 2) | ((with_reducible refine gate_callee (f := 15) rfl ?_);refine goesL_ (some 81) rfl rfl Try.func15 (by kernel_rfl) rfl #[.agg #[.int .i64 t158, .slice Ao39 t159.length co39, .slice Ao40 t162.length co40]] rfl (by (try simp only [List.map_toArray, List.map_cons, List.map_nil]);first | done | rfl | (simp only [List.length_drop, List.length_take];rfl)) ?_;(with_reducible refine (network_Check.calls kj19 t158 _ _ t159 _ _ t162 t183 _ ?side1 ?side2 ?side3 ?side4 A68.out).mono ?_);(case side1 => repeat (first | exact (Kd.V_reads' HO_170001.out).2.2 | (with_reducible refine Kd.C_alloc ?_ _) | (with_reducible refine Kd.C_drewN ?_ _) | (with_reducible refine Kd.C_drew ?_)));(case side2 => exact (Kd.V_reads' HO_170001.out).2.1);(case side3 => repeat (first | exact (Kd.R_reads' HO_170002.out).2.2 | (with_reducible refine Kd.C_alloc ?_ _) | (with_reducible refine Kd.C_drewN ?_ _) | (with_reducible refine Kd.C_drew ?_)));(case side4 => exact (Kd.R_reads' HO_170002.out).2.1);rintro e w88 ⟨rfl, hb⟩;refine ⟨_, rfl, ?_⟩;have n0_ := aS (Kd.R_below (by (with_reducible repeat (first | apply rA|apply rN|apply rD));exact HO_8.out) hb);have n1_ := aS (Kd.V_below (by (with_reducible repeat (first | apply vA|apply vN|apply vD));exact HO_158001.out) hb);have n2_ := aS (Kd.R_below (by (with_reducible repeat (first | apply rA|apply rN|apply rD));exact HO_158002.out) hb);have n3_ := aS (Kd.V_below (by (with_reducible repeat (first | apply vA|apply vN|apply vD));exact HO_170001.out) hb);have n4_ := aS (Kd.R_below (by (with_reducible repeat (first | apply rA|apply rN|apply rD));exact HO_170002.out) hb);have n5_ := aS (Kd.R_below (by (with_reducible repeat (first | apply rA|apply rN|apply rD));exact HO182.out) hb);have n6_ := aS (blk_below (g := gb145) (o := .cells #[.int .i64 a0_0, .slice A0_1 l0_1.length c0_1, .slice A0_2 l0_2.length c0_2] 25 (0, 0)) (by (with_reducible repeat (first | refine blk_drewN ?_ _ | refine blk_drew ?_ | refine blk_alloc ?_ _));exact BK145.out) hb);have n7_ := aS (blk_below (g := gb146) (o := .cells #[.int .i64 a1_0, .int .i64 a1_1, .string a1_2] 27 (0, 0)) (by (with_reducible repeat (first | refine blk_drewN ?_ _ | refine blk_drew ?_ | refine blk_alloc ?_ _));exact BK146.out) hb);have n8_ := aS (blk_below (g := gb157) (o := .cells #[.int .i64 t149, .slice Ao29 t150.length co29, .slice Ao30 t153.length co30] 25 (0, 0)) (by (with_reducible repeat (first | refine blk_drewN ?_ _ | refine blk_drew ?_ | refine blk_alloc ?_ _));exact BK157.out) hb);have n9_ := aS (blk_below (g := gb169) (o := .cells #[.int .i64 t158, .slice Ao39 t159.length co39, .slice Ao40 t162.length co40] 25 (0, 0)) (by (with_reducible repeat (first | refine blk_drewN ?_ _ | refine blk_drew ?_ | refine blk_alloc ?_ _));exact BK169.out) hb);have n10_ := aS (below_step (by repeat (first | (with_reducible first | exact HB.out | apply bA|apply bN|apply bD | refine below_set ?_ GE145.out | refine below_set ?_ GE146.out | refine below_set ?_ GE157.out | refine below_set ?_ GE169.out) | exact HB.out)) hb);clear HO_8 HO_158001 HO_158002 HO_170001 HO_170002 HO182 BK145 BK146 BK157 BK169 HB;have HO_8 := n0_;have HO_158001 := n1_;have HO_158002 := n2_;have HO_170001 := n3_;have HO_170002 := n4_;have HO182 := n5_;have BK145 := n6_;have BK146 := n7_;have BK157 := n8_;have BK169 := n9_;have HB := n10_;clear n0_ n1_ n2_ n3_ n4_ n5_ n6_ n7_ n8_ n9_ n10_;(try clear hb);(try clear hb2);(try clear hk);(try clear hi);have hcz89_0 : w88.cell? ⟨gb169, 0, none⟩ = some (.int .i64 t158) := (blk_cell BK169.out 0).trans rfl;have hcz89_1 : w88.cell? ⟨gb169, 1, none⟩ = some (.slice Ao39 t159.length co39) := (blk_cell BK169.out 1).trans rfl;have hcz89_2 : w88.cell? ⟨gb169, 2, none⟩ = some (.slice Ao40 t162.length co40) := (blk_cell BK169.out 2).trans rfl;have hfz89_0 := blk_frozen BK169.out 0;have hfz89_1 := blk_frozen BK169.out 1;have hfz89_2 := blk_frozen BK169.out 2;have hcz90_0 : w88.cell? ⟨gb145, 0, none⟩ = some (.int .i64 a0_0) := (blk_cell BK145.out 0).trans rfl;have hcz90_1 : w88.cell? ⟨gb145, 1, none⟩ = some (.slice A0_1 l0_1.length c0_1) := (blk_cell BK145.out 1).trans rfl;have hcz90_2 : w88.cell? ⟨gb145, 2, none⟩ = some (.slice A0_2 l0_2.length c0_2) := (blk_cell BK145.out 2).trans rfl;have hfz90_0 := blk_frozen BK145.out 0;have hfz90_1 := blk_frozen BK145.out 1;have hfz90_2 := blk_frozen BK145.out 2;obtain ⟨Ao91, co91, eo91⟩ := Kd.R_slice HO182.out;subst eo91) | (go_at_call 28;(with_reducible refine (api_Flight_28.calls kj19 _ _ t162 _ _ t180 true _ ?side1 ?side2 ?side3 ?side4 A71.out).mono ?_);(case side1 => repeat (first | exact (Kd.R_reads' HO_170002.out).2.2 | (with_reducible refine Kd.C_alloc ?_ _) | (with_reducible refine Kd.C_drewN ?_ _) | (with_reducible refine Kd.C_drew ?_)));(case side2 => exact (Kd.R_reads' HO_170002.out).2.1);(case side3 => repeat (first | exact (Kd.R_reads' HO182.out).2.2 | (with_reducible refine Kd.C_alloc ?_ _) | (with_reducible refine Kd.C_drewN ?_ _) | (with_reducible refine Kd.C_drew ?_)));(case side4 => exact (Kd.R_reads' HO182.out).2.1);rintro e w' ⟨rfl, ⟨nd, rfl⟩⟩;obtain ⟨Ao92, co92, eo92⟩ := Kd.R_slice HO_8.out;subst eo92) | (go_at_call 32;(with_reducible refine (slices_Equal_int_int.calls kj19 _ _ t159 _ _ l0_1 true _ ?side1 ?side2 ?side3 ?side4 A74.out).mono ?_);(case side1 => repeat (first | exact (Kd.V_reads' HO_170001.out).2.2 | (with_reducible refine Kd.C_alloc ?_ _) | (with_reducible refine Kd.C_drewN ?_ _) | (with_reducible refine Kd.C_drew ?_)));(case side2 => exact (Kd.V_reads' HO_170001.out).2.1);(case side3 => repeat (first | exact (Kd.C_below HR0_1.out (by repeat (first | (with_reducible first | exact HB.out | apply bA|apply bN|apply bD | refine below_set ?_ GE145.out | refine below_set ?_ GE146.out | refine below_set ?_ GE157.out | refine below_set ?_ GE169.out) | exact HB.out))) | (with_reducible refine Kd.C_alloc ?_ _) | (with_reducible refine Kd.C_drewN ?_ _) | (with_reducible refine Kd.C_drew ?_)));(case side4 => exact HC0_1.out);rintro e w' ⟨rfl, ⟨nd, rfl⟩⟩) | (go_at_call 11;(with_reducible refine (lookoutlaw50_awake.calls kj19  t186 _ A76.out).mono ?_);rintro e w93 ⟨rfl, hb⟩;have n0_ := aS (Kd.R_below (by (with_reducible repeat (first | apply rA|apply rN|apply rD));exact HO_8.out) hb);have n1_ := aS (Kd.V_below (by (with_reducible repeat (first | apply vA|apply vN|apply vD));exact HO_158001.out) hb);have n2_ := aS (Kd.R_below (by (with_reducible repeat (first | apply rA|apply rN|apply rD));exact HO_158002.out) hb);have n3_ := aS (Kd.V_below (by (with_reducible repeat (first | apply vA|apply vN|apply vD));exact HO_170001.out) hb);have n4_ := aS (Kd.R_below (by (with_reducible repeat (first | apply rA|apply rN|apply rD));exact HO_170002.out) hb);have n5_ := aS (Kd.R_below (by (with_reducible repeat (first | apply rA|apply rN|apply rD));exact HO182.out) hb);have n6_ := aS (blk_below (g := gb145) (o := .cells #[.int .i64 a0_0, .slice A0_1 l0_1.length c0_1, .slice A0_2 l0_2.length c0_2] 25 (0, 0)) (by (with_reducible repeat (first | refine blk_drewN ?_ _ | refine blk_drew ?_ | refine blk_alloc ?_ _));exact BK145.out) hb);have n7_ := aS (blk_below (g := gb146) (o := .cells #[.int .i64 a1_0, .int .i64 a1_1, .string a1_2] 27 (0, 0)) (by (with_reducible repeat (first | refine blk_drewN ?_ _ | refine blk_drew ?_ | refine blk_alloc ?_ _));exact BK146.out) hb);have n8_ := aS (blk_below (g := gb157) (o := .cells #[.int .i64 t149, .slice Ao29 t150.length co29, .slice Ao30 t153.length co30] 25 (0, 0)) (by (with_reducible repeat (first | refine blk_drewN ?_ _ | refine blk_drew ?_ | refine blk_alloc ?_ _));exact BK157.out) hb);have n9_ := aS (blk_below (g := gb169) (o := .cells #[.int .i64 t158, .slice Ao39 t159.length co39, .slice Ao40 t162.length co40] 25 (0, 0)) (by (with_reducible repeat (first | refine blk_drewN ?_ _ | refine blk_drew ?_ | refine blk_alloc ?_ _));exact BK169.out) hb);have n10_ := aS (below_step (by repeat (first | (with_reducible first | exact HB.out | apply bA|apply bN|apply bD | refine below_set ?_ GE145.out | refine below_set ?_ GE146.out | refine below_set ?_ GE157.out | refine below_set ?_ GE169.out) | exact HB.out)) hb);clear HO_8 HO_158001 HO_158002 HO_170001 HO_170002 HO182 BK145 BK146 BK157 BK169 HB;have HO_8 := n0_;have HO_158001 := n1_;have HO_158002 := n2_;have HO_170001 := n3_;have HO_170002 := n4_;have HO182 := n5_;have BK145 := n6_;have BK146 := n7_;have BK157 := n8_;have BK169 := n9_;have HB := n10_;clear n0_ n1_ n2_ n3_ n4_ n5_ n6_ n7_ n8_ n9_ n10_;(try clear hb);(try clear hb2);(try clear hk);(try clear hi)))
                          go_ret
                          exact ⟨by first | rfl | (simp [errW_none, errW_some] <;> rfl) | (simp [*, errW_none, errW_some] <;> rfl), by repeat (first | (with_reducible first | exact HB.out | apply bA|apply bN|apply bD | refine below_set ?_ GE145.out | refine below_set ?_ GE146.out | refine below_set ?_ GE157.out | refine below_set ?_ GE169.out) | exact HB.out)⟩
                        · replace c75 := Bool.eq_false_iff.mpr c75
                          subst c75
                          have H1 : (none) = some r := by rw [if_neg (show ¬ (false = true) by decide)] at H; exact H
                          clear H
                          have H := H1
                          clear H1
                          exact absurd H (by simp)
                      · rw [if_neg c73] at H
                        exact absurd H (by simp)
                    · replace c72 := Bool.eq_false_iff.mpr c72
                      subst c72
                      have H1 : (none) = some r := by rw [if_neg (show ¬ (false = true) by decide)] at H; exact H
                      clear H
                      have H := H1
                      clear H1
                      exact absurd H (by simp)
                  · rw [if_neg c70] at H
                    exact absurd H (by simp)
                · rw [if_neg c69] at H
                  exact absurd H (by simp)
              · rw [if_neg c65] at H
                have c65b0 : (t168 == 0) = false := beq_eq_false_iff_ne.mpr c65
                have c65b1 : (t168 != 0) = true := bne_iff_ne.mpr c65
                by_cases c94 : (t165.length : Int) = 0
                · rw [if_pos c94] at H
                  have c94b0 : ((t165.length : Int) == 0) = true := beq_iff_eq.mpr c94
                  have c94b1 : ((t165.length : Int) != 0) = false := bne_eq_false_iff_eq.mpr c94
                  clear c94
                  replace H := Option.bind_eq_some_iff.mp H
                  obtain ⟨t176, A950, H⟩ := H
                  replace H : (some t176) = some r := H
                  have A95 := aS A950
                  clear A950
                  obtain rfl := Option.some.inj H
                  obtain ⟨Ao96, co96, eo96⟩ := Kd.R_slice HO_8.out
                  subst eo96
                  go_wp2_with (first | (go_at_call 11;(with_reducible refine (lookoutlaw50_awake.calls kj19  t176 _ A95.out).mono ?_);rintro e w97 ⟨rfl, hb⟩;have n0_ := aS (Kd.R_below (by (with_reducible repeat (first | apply rA|apply rN|apply rD));exact HO_8.out) hb);have n1_ := aS (Kd.V_below (by (with_reducible repeat (first | apply vA|apply vN|apply vD));exact HO_158001.out) hb);have n2_ := aS (Kd.R_below (by (with_reducible repeat (first | apply rA|apply rN|apply rD));exact HO_158002.out) hb);have n3_ := aS (Kd.V_below (by (with_reducible repeat (first | apply vA|apply vN|apply vD));exact HO_170001.out) hb);have n4_ := aS (Kd.R_below (by (with_reducible repeat (first | apply rA|apply rN|apply rD));exact HO_170002.out) hb);have n5_ := aS (blk_below (g := gb145) (o := .cells #[.int .i64 a0_0, .slice A0_1 l0_1.length c0_1, .slice A0_2 l0_2.length c0_2] 25 (0, 0)) (by (with_reducible repeat (first | refine blk_drewN ?_ _ | refine blk_drew ?_ | refine blk_alloc ?_ _));exact BK145.out) hb);have n6_ := aS (blk_below (g := gb146) (o := .cells #[.int .i64 a1_0, .int .i64 a1_1, .string a1_2] 27 (0, 0)) (by (with_reducible repeat (first | refine blk_drewN ?_ _ | refine blk_drew ?_ | refine blk_alloc ?_ _));exact BK146.out) hb);have n7_ := aS (blk_below (g := gb157) (o := .cells #[.int .i64 t149, .slice Ao29 t150.length co29, .slice Ao30 t153.length co30] 25 (0, 0)) (by (with_reducible repeat (first | refine blk_drewN ?_ _ | refine blk_drew ?_ | refine blk_alloc ?_ _));exact BK157.out) hb);have n8_ := aS (blk_below (g := gb169) (o := .cells #[.int .i64 t158, .slice Ao39 t159.length co39, .slice Ao40 t162.length co40] 25 (0, 0)) (by (with_reducible repeat (first | refine blk_drewN ?_ _ | refine blk_drew ?_ | refine blk_alloc ?_ _));exact BK169.out) hb);have n9_ := aS (below_step (by repeat (first | (with_reducible first | exact HB.out | apply bA|apply bN|apply bD | refine below_set ?_ GE145.out | refine below_set ?_ GE146.out | refine below_set ?_ GE157.out | refine below_set ?_ GE169.out) | exact HB.out)) hb);clear HO_8 HO_158001 HO_158002 HO_170001 HO_170002 BK145 BK146 BK157 BK169 HB;have HO_8 := n0_;have HO_158001 := n1_;have HO_158002 := n2_;have HO_170001 := n3_;have HO_170002 := n4_;have BK145 := n5_;have BK146 := n6_;have BK157 := n7_;have BK169 := n8_;have HB := n9_;clear n0_ n1_ n2_ n3_ n4_ n5_ n6_ n7_ n8_ n9_;(try clear hb);(try clear hb2);(try clear hk);(try clear hi)))
                  go_ret
                  exact ⟨by first | rfl | (simp [errW_none, errW_some] <;> rfl) | (simp [*, errW_none, errW_some] <;> rfl), by repeat (first | (with_reducible first | exact HB.out | apply bA|apply bN|apply bD | refine below_set ?_ GE145.out | refine below_set ?_ GE146.out | refine below_set ?_ GE157.out | refine below_set ?_ GE169.out) | exact HB.out)⟩
                · rw [if_neg c94] at H
                  exact absurd H (by simp)

def lookoutlaw50_NetworkValid.WT27 (x : S27) : Prop := (Lit.int .i64 x.f0).wf = true ∧ (Lit.int .i64 x.f1).wf = true ∧ x.f2.size ≤ 140737488351232
def lookoutlaw50_NetworkValid.WT44 (x : S44) : Prop := (Lit.int .i64 x.f0).wf = true ∧ lookoutlaw50_NetworkValid.WT27 x.f1
def lookoutlaw50_NetworkValid.WT25 (x : S25) : Prop := (Lit.int .i64 x.f0).wf = true ∧ (x.f1.length ≤ maxLen ∧ x.f1.length * 8 ≤ 140737488351232 ∧ ∀ y ∈ x.f1, (Lit.int .i64 y).wf = true) ∧ (x.f2.length ≤ maxLen ∧ x.f2.length * 40 ≤ 140737488351232 ∧ ∀ y ∈ x.f2, lookoutlaw50_NetworkValid.WT44 y)
/-- THE ONE PURE STATEMENT of lookoutlaw50_NetworkValid. -/
def lookoutlaw50_NetworkValid.Pure : Prop := ∀ (a0_0 : Int) (l0_1 : List Int) (l0_2 : List (S44)) (a1_0 : Int) (a1_1 : Int) (a1_2 : ByteArray), (Lit.int .i64 a0_0).wf = true → l0_1.length ≤ maxLen → l0_1.length * 8 ≤ 140737488351232 → (∀ x ∈ l0_1, (Lit.int .i64 x).wf = true) → l0_2.length ≤ maxLen → l0_2.length * 40 ≤ 140737488351232 → (∀ x ∈ l0_2, lookoutlaw50_NetworkValid.WT44 x) → (Lit.int .i64 a1_0).wf = true → (Lit.int .i64 a1_1).wf = true → a1_2.size ≤ 140737488351232 → ∃ k, lookoutlaw50_NetworkValid.f k a0_0 l0_1 l0_2 a1_0 a1_1 a1_2 = some true

end Go.Proofs.Ytkfplnbofgiknaa.P
