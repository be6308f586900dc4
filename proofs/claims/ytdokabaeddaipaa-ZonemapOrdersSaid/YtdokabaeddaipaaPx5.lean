/- Printed by a program of this session: functions of the law's Go code as Lean functions, and that the Go code computes them. No condition beyond those in the statements. -/
import Derived.Test.YtdokabaeddaipaaPx0
namespace Go.Proofs.Ytdokabaeddaipaa.P
open Go.RowKit Go.Proofs.YtdokabaeddaipaaW.PrintWords Go.Proofs.YtdokabaeddaipaaW.PrintLast Go.Proofs.YtdokabaeddaipaaW.PrintMore Go.Proofs.Ytdokabaeddaipaa.Hand Go.Proofs.Ytdokabaeddaipaa.A
attribute [local go_sem] max2_int min2_int max_two min_two max_three min_three max_four min_four   -- for this text's walks alone
set_option linter.unusedVariables false
set_option linter.unusedSimpArgs false

/-! ### zonemap_May: function 21 -/
mutual
def zonemap_May.j0 : Nat → Bool → Int → Int → Int → Int → Int → Int → Int → Int → Int → Int → Int → Int → Int → Int → Int → Bool → Int → Int → List ByteArray → Option (Bool)
  | 0, _, _, _, _, _, _, _, _, _, _, _, _, _, _, _, _, _, _, _, _ => none
  | k + 1, x26, x103000, x103001, x103002, x103003, x103004, x103005, x103006, x103007, x103008, x103009, x103010, x103011, x103012, x104000, x104001, x104002, x104003, x104004, x104005 => if x26 = true then (some false) else (if x104002 = true then (if x103004 < x104003 then (zonemap_May.j1 k true x103000 x103001 x103002 x103003 x103004 x103005 x103006 x103007 x103008 x103009 x103010 x103011 x103012 x104000 x104001 x104002 x104003 x104004 x104005) else (zonemap_May.j1 k (decide (x103003 > x104004)) x103000 x103001 x103002 x103003 x103004 x103005 x103006 x103007 x103008 x103009 x103010 x103011 x103012 x104000 x104001 x104002 x104003 x104004 x104005)) else (zonemap_May.j1 k false x103000 x103001 x103002 x103003 x103004 x103005 x103006 x103007 x103008 x103009 x103010 x103011 x103012 x104000 x104001 x104002 x104003 x104004 x104005))
def zonemap_May.j1 : Nat → Bool → Int → Int → Int → Int → Int → Int → Int → Int → Int → Int → Int → Int → Int → Int → Int → Bool → Int → Int → List ByteArray → Option (Bool)
  | 0, _, _, _, _, _, _, _, _, _, _, _, _, _, _, _, _, _, _, _, _ => none
  | k + 1, x42, x103000, x103001, x103002, x103003, x103004, x103005, x103006, x103007, x103008, x103009, x103010, x103011, x103012, x104000, x104001, x104002, x104003, x104004, x104005 => if x42 = true then (some false) else (zonemap_May.l0 k x104005 (x104005.length : Int) 0 x103000 x103001 x103002 x103003 x103004 x103005 x103006 x103007 x103008 x103009 x103010 x103011 x103012)
def zonemap_May.l0 : Nat → List ByteArray → Int → Int → Int → Int → Int → Int → Int → Int → Int → Int → Int → Int → Int → Int → Int → Option (Bool)
  | 0, _, _, _, _, _, _, _, _, _, _, _, _, _, _, _, _ => none
  | k + 1, x44, x45, x46, x103000, x103001, x103002, x103003, x103004, x103005, x103006, x103007, x103008, x103009, x103010, x103011, x103012 => if x46 < x45 then (if 0 ≤ x46 then (if x46 < (x44.length : Int) then ((zonemap_Has.f x103000 x103001 x103002 x103003 x103004 x103005 x103006 x103007 x103008 x103009 x103010 x103011 x103012 (rdOf ByteArray.empty x44 x46)).bind fun t106 => (if t106 = true then (zonemap_May.l0 k x44 x45 (wrap64 (x46 + 1)) x103000 x103001 x103002 x103003 x103004 x103005 x103006 x103007 x103008 x103009 x103010 x103011 x103012) else (some false))) else (none)) else (none)) else (some true)
end
def zonemap_May.f (k : Nat) (a0_0 : Int) (a0_1 : Int) (a0_2 : Int) (a0_3 : Int) (a0_4 : Int) (a0_5 : Int) (a0_6 : Int) (a0_7 : Int) (a0_8 : Int) (a0_9 : Int) (a0_10 : Int) (a0_11 : Int) (a0_12 : Int) (a1_0 : Int) (a1_1 : Int) (a1_2 : Bool) (a1_3 : Int) (a1_4 : Int) (l1_5 : List ByteArray) : Option (Bool) := (zcheck.f a0_0 a0_1 a0_2 a0_3 a0_4 a0_5 a0_6 a0_7 a0_8 a0_9 a0_10 a0_11 a0_12).bind fun t104 => (if t104 = 0 then (if a0_0 = 0 then (zonemap_May.j0 k true a0_0 a0_1 a0_2 a0_3 a0_4 a0_5 a0_6 a0_7 a0_8 a0_9 a0_10 a0_11 a0_12 a1_0 a1_1 a1_2 a1_3 a1_4 l1_5) else (if a0_2 ≤ a1_0 then (zonemap_May.j0 k true a0_0 a0_1 a0_2 a0_3 a0_4 a0_5 a0_6 a0_7 a0_8 a0_9 a0_10 a0_11 a0_12 a1_0 a1_1 a1_2 a1_3 a1_4 l1_5) else (zonemap_May.j0 k (decide (a0_1 > a1_1)) a0_0 a0_1 a0_2 a0_3 a0_4 a0_5 a0_6 a0_7 a0_8 a0_9 a0_10 a0_11 a0_12 a1_0 a1_1 a1_2 a1_3 a1_4 l1_5))) else (some true))
theorem zonemap_May.mono_l : ∀ k, (∀ y0 y1 y2 y3 y4 y5 y6 y7 y8 y9 y10 y11 y12 y13 y14 y15 y16 y17 y18 y19, LeO (zonemap_May.j0 k y0 y1 y2 y3 y4 y5 y6 y7 y8 y9 y10 y11 y12 y13 y14 y15 y16 y17 y18 y19) (zonemap_May.j0 (k + 1) y0 y1 y2 y3 y4 y5 y6 y7 y8 y9 y10 y11 y12 y13 y14 y15 y16 y17 y18 y19)) ∧ (∀ y0 y1 y2 y3 y4 y5 y6 y7 y8 y9 y10 y11 y12 y13 y14 y15 y16 y17 y18 y19, LeO (zonemap_May.j1 k y0 y1 y2 y3 y4 y5 y6 y7 y8 y9 y10 y11 y12 y13 y14 y15 y16 y17 y18 y19) (zonemap_May.j1 (k + 1) y0 y1 y2 y3 y4 y5 y6 y7 y8 y9 y10 y11 y12 y13 y14 y15 y16 y17 y18 y19)) ∧ (∀ y0 y1 y2 y3 y4 y5 y6 y7 y8 y9 y10 y11 y12 y13 y14 y15, LeO (zonemap_May.l0 k y0 y1 y2 y3 y4 y5 y6 y7 y8 y9 y10 y11 y12 y13 y14 y15) (zonemap_May.l0 (k + 1) y0 y1 y2 y3 y4 y5 y6 y7 y8 y9 y10 y11 y12 y13 y14 y15))
  | 0 => ⟨fun _ _ _ _ _ _ _ _ _ _ _ _ _ _ _ _ _ _ _ _ r h => by simp [zonemap_May.j0] at h, fun _ _ _ _ _ _ _ _ _ _ _ _ _ _ _ _ _ _ _ _ r h => by simp [zonemap_May.j1] at h, fun _ _ _ _ _ _ _ _ _ _ _ _ _ _ _ _ r h => by simp [zonemap_May.l0] at h⟩
  | k + 1 => by
    obtain ⟨ih0, ih1, ih2⟩ := zonemap_May.mono_l k
    refine ⟨?_, ?_, ?_⟩
    · intro y0 y1 y2 y3 y4 y5 y6 y7 y8 y9 y10 y11 y12 y13 y14 y15 y16 y17 y18 y19
      unfold zonemap_May.j0
      repeat' first
      | (with_reducible exact ih0 _ _ _ _ _ _ _ _ _ _ _ _ _ _ _ _ _ _ _ _)
      | (with_reducible exact ih1 _ _ _ _ _ _ _ _ _ _ _ _ _ _ _ _ _ _ _ _)
      | (with_reducible exact ih2 _ _ _ _ _ _ _ _ _ _ _ _ _ _ _ _)
      | (with_reducible exact LeO.refl _)
      | (with_reducible exact LeO.none _)
      | (with_reducible refine LeO.ite ?_ ?_)
      | (with_reducible refine LeO.bind ?_ (fun _ => ?_))
      | exact ih0 _ _ _ _ _ _ _ _ _ _ _ _ _ _ _ _ _ _ _ _
      | exact ih1 _ _ _ _ _ _ _ _ _ _ _ _ _ _ _ _ _ _ _ _
      | exact ih2 _ _ _ _ _ _ _ _ _ _ _ _ _ _ _ _
      | exact LeO.none _
      | refine LeO.ite ?_ ?_
      | refine LeO.bind ?_ (fun _ => ?_)
    · intro y0 y1 y2 y3 y4 y5 y6 y7 y8 y9 y10 y11 y12 y13 y14 y15 y16 y17 y18 y19
      unfold zonemap_May.j1
      repeat' first
      | (with_reducible exact ih0 _ _ _ _ _ _ _ _ _ _ _ _ _ _ _ _ _ _ _ _)
      | (with_reducible exact ih1 _ _ _ _ _ _ _ _ _ _ _ _ _ _ _ _ _ _ _ _)
      | (with_reducible exact ih2 _ _ _ _ _ _ _ _ _ _ _ _ _ _ _ _)
      | (with_reducible exact LeO.refl _)
      | (with_reducible exact LeO.none _)
      | (with_reducible refine LeO.ite ?_ ?_)
      | (with_reducible refine LeO.bind ?_ (fun _ => ?_))
      | exact ih0 _ _ _ _ _ _ _ _ _ _ _ _ _ _ _ _ _ _ _ _
      | exact ih1 _ _ _ _ _ _ _ _ _ _ _ _ _ _ _ _ _ _ _ _
      | exact ih2 _ _ _ _ _ _ _ _ _ _ _ _ _ _ _ _
      | exact LeO.none _
      | refine LeO.ite ?_ ?_
      | refine LeO.bind ?_ (fun _ => ?_)
    · intro y0 y1 y2 y3 y4 y5 y6 y7 y8 y9 y10 y11 y12 y13 y14 y15
      unfold zonemap_May.l0
      repeat' first
      | (with_reducible exact ih0 _ _ _ _ _ _ _ _ _ _ _ _ _ _ _ _ _ _ _ _)
      | (with_reducible exact ih1 _ _ _ _ _ _ _ _ _ _ _ _ _ _ _ _ _ _ _ _)
      | (with_reducible exact ih2 _ _ _ _ _ _ _ _ _ _ _ _ _ _ _ _)
      | (with_reducible exact LeO.refl _)
      | (with_reducible exact LeO.none _)
      | (with_reducible refine LeO.ite ?_ ?_)
      | (with_reducible refine LeO.bind ?_ (fun _ => ?_))
      | exact ih0 _ _ _ _ _ _ _ _ _ _ _ _ _ _ _ _ _ _ _ _
      | exact ih1 _ _ _ _ _ _ _ _ _ _ _ _ _ _ _ _ _ _ _ _
      | exact ih2 _ _ _ _ _ _ _ _ _ _ _ _ _ _ _ _
      | exact LeO.none _
      | refine LeO.ite ?_ ?_
      | refine LeO.bind ?_ (fun _ => ?_)
theorem zonemap_May.mono : ∀ a0 a1 a2 a3 a4 a5 a6 a7 a8 a9 a10 a11 a12 a13 a14 a15 a16 a17 a18 k, LeO (zonemap_May.f k a0 a1 a2 a3 a4 a5 a6 a7 a8 a9 a10 a11 a12 a13 a14 a15 a16 a17 a18) (zonemap_May.f (k + 1) a0 a1 a2 a3 a4 a5 a6 a7 a8 a9 a10 a11 a12 a13 a14 a15 a16 a17 a18) := by
  intro a0 a1 a2 a3 a4 a5 a6 a7 a8 a9 a10 a11 a12 a13 a14 a15 a16 a17 a18 k
  obtain ⟨ih0, ih1, ih2⟩ := zonemap_May.mono_l k
  unfold zonemap_May.f
  repeat' first
      | (with_reducible exact ih0 _ _ _ _ _ _ _ _ _ _ _ _ _ _ _ _ _ _ _ _)
      | (with_reducible exact ih1 _ _ _ _ _ _ _ _ _ _ _ _ _ _ _ _ _ _ _ _)
      | (with_reducible exact ih2 _ _ _ _ _ _ _ _ _ _ _ _ _ _ _ _)
      | (with_reducible exact LeO.refl _)
      | (with_reducible exact LeO.none _)
      | (with_reducible refine LeO.ite ?_ ?_)
      | (with_reducible refine LeO.bind ?_ (fun _ => ?_))
      | exact ih0 _ _ _ _ _ _ _ _ _ _ _ _ _ _ _ _ _ _ _ _
      | exact ih1 _ _ _ _ _ _ _ _ _ _ _ _ _ _ _ _ _ _ _ _
      | exact ih2 _ _ _ _ _ _ _ _ _ _ _ _ _ _ _ _
      | exact LeO.none _
      | refine LeO.ite ?_ ?_
      | refine LeO.bind ?_ (fun _ => ?_)
set_option maxHeartbeats 8000000 in
set_option maxRecDepth 100000 in
theorem zonemap_May.calls (k : Nat) (a0_0 : Int) (a0_1 : Int) (a0_2 : Int) (a0_3 : Int) (a0_4 : Int) (a0_5 : Int) (a0_6 : Int) (a0_7 : Int) (a0_8 : Int) (a0_9 : Int) (a0_10 : Int) (a0_11 : Int) (a0_12 : Int) (a1_0 : Int) (a1_1 : Int) (a1_2 : Bool) (a1_3 : Int) (a1_4 : Int) (A1_5 : Option Addr) (c1_5 : Nat) (l1_5 : List ByteArray) (r : Bool) (w : World) (hr1_5 : Kd.C Kd.string w A1_5 l1_5.length l1_5) (hc1_5 : l1_5.length ≤ c1_5) (h : zonemap_May.f k a0_0 a0_1 a0_2 a0_3 a0_4 a0_5 a0_6 a0_7 a0_8 a0_9 a0_10 a0_11 a0_12 a1_0 a1_1 a1_2 a1_3 a1_4 l1_5 = some r) :
    Calls Try.prog 21 #[.agg #[.int .i64 a0_0, .int .i64 a0_1, .int .i64 a0_2, .int .i64 a0_3, .int .i64 a0_4, .int .u32 a0_5, .int .u32 a0_6, .int .u32 a0_7, .int .u32 a0_8, .int .u32 a0_9, .int .u32 a0_10, .int .u32 a0_11, .int .u32 a0_12], .agg #[.int .i64 a1_0, .int .i64 a1_1, .bool a1_2, .int .i64 a1_3, .int .i64 a1_4, .slice A1_5 l1_5.length c1_5]] w fun e w' => e = .returned (.bool r) ∧ Below w.heap.size w w' := by
  have hu25 := Try.underlying25
  have hu35 := Try.underlying35
  have HR1_5 := Aside0.mk hr1_5
  have HC1_5 := Aside0.mk hc1_5
  clear hr1_5 hc1_5
  have HB := Aside0.mk (Below.refl w.heap.size w)
  have H : ((zcheck.f a0_0 a0_1 a0_2 a0_3 a0_4 a0_5 a0_6 a0_7 a0_8 a0_9 a0_10 a0_11 a0_12).bind fun t104 => (if t104 = 0 then (if a0_0 = 0 then (zonemap_May.j0 k true a0_0 a0_1 a0_2 a0_3 a0_4 a0_5 a0_6 a0_7 a0_8 a0_9 a0_10 a0_11 a0_12 a1_0 a1_1 a1_2 a1_3 a1_4 l1_5) else (if a0_2 ≤ a1_0 then (zonemap_May.j0 k true a0_0 a0_1 a0_2 a0_3 a0_4 a0_5 a0_6 a0_7 a0_8 a0_9 a0_10 a0_11 a0_12 a1_0 a1_1 a1_2 a1_3 a1_4 l1_5) else (zonemap_May.j0 k (decide (a0_1 > a1_1)) a0_0 a0_1 a0_2 a0_3 a0_4 a0_5 a0_6 a0_7 a0_8 a0_9 a0_10 a0_11 a0_12 a1_0 a1_1 a1_2 a1_3 a1_4 l1_5))) else (some true))) = some r := h
  clear h
  replace H := Option.bind_eq_some_iff.mp H
  obtain ⟨t104, A30, H⟩ := H
  replace H : (if t104 = 0 then (if a0_0 = 0 then (zonemap_May.j0 k true a0_0 a0_1 a0_2 a0_3 a0_4 a0_5 a0_6 a0_7 a0_8 a0_9 a0_10 a0_11 a0_12 a1_0 a1_1 a1_2 a1_3 a1_4 l1_5) else (if a0_2 ≤ a1_0 then (zonemap_May.j0 k true a0_0 a0_1 a0_2 a0_3 a0_4 a0_5 a0_6 a0_7 a0_8 a0_9 a0_10 a0_11 a0_12 a1_0 a1_1 a1_2 a1_3 a1_4 l1_5) else (zonemap_May.j0 k (decide (a0_1 > a1_1)) a0_0 a0_1 a0_2 a0_3 a0_4 a0_5 a0_6 a0_7 a0_8 a0_9 a0_10 a0_11 a0_12 a1_0 a1_1 a1_2 a1_3 a1_4 l1_5))) else (some true)) = some r := H
  have A3 := Aside0.mk A30
  clear A30
  by_cases c4 : t104 = 0
  · rw [if_pos c4] at H
    have c4b0 : (t104 == 0) = true := beq_iff_eq.mpr c4
    have c4b1 : (t104 != 0) = false := bne_eq_false_iff_eq.mpr c4
    clear c4
    have HC5 := Aside0.mk H
    clear H
    go_enter Try.func21, Try.ntmps21
    go_upto_region 3 with (first | ((with_reducible refine gate_dst (N := 2) rfl ?_); refine box_event ?hg (N := 2) ?hd (cs := #[.int .i64 a0_0, .int .i64 a0_1, .int .i64 a0_2, .int .i64 a0_3, .int .i64 a0_4, .int .u32 a0_5, .int .u32 a0_6, .int .u32 a0_7, .int .u32 a0_8, .int .u32 a0_9, .int .u32 a0_10, .int .u32 a0_11, .int .u32 a0_12]) (t := 25) ?hr ?_; (case hd => rfl); (case hg => rfl); (case hr => first | (go_simp; done) | (go_simp; rfl)); intro gb102 hg w6 hbox hb; have n0_ := Aside0.mk (below_step (by repeat (first | (with_reducible first | exact HB.out | apply below_alloc | apply pw_below_drewN | apply below_drew1) | exact HB.out)) hb); have n1_ := Aside0.mk (hbox); have n2_ := Aside0.mk ((by rw [hg]; exact (below_size (by repeat (first | (with_reducible first | exact HB.out | apply below_alloc | apply pw_below_drewN | apply below_drew1) | exact HB.out))) : w.heap.size ≤ gb102)); have n3_ := Aside0.mk ((by rw [hg]; exact (below_size (by repeat (first | (with_reducible first | exact HB.out | apply below_alloc | apply pw_below_drewN | apply below_drew1) | exact HB.out))) : w.heap.size ≤ gb102)); clear HB; have HB := n0_; have BK102 := n1_; have GW102 := n2_; have GE102 := n3_; clear n0_ n1_ n2_ n3_; clear hb hbox hg) | ((with_reducible refine gate_dst (N := 3) rfl ?_); refine box_event ?hg (N := 3) ?hd (cs := #[.int .i64 a1_0, .int .i64 a1_1, .bool a1_2, .int .i64 a1_3, .int .i64 a1_4, .slice A1_5 l1_5.length c1_5]) (t := 35) ?hr ?_; (case hd => rfl); (case hg => rfl); (case hr => first | (go_simp; done) | (go_simp; rfl)); intro gb103 hg w7 hbox hb; have n0_ := Aside0.mk (blk_below (g := gb102) (o := .cells #[.int .i64 a0_0, .int .i64 a0_1, .int .i64 a0_2, .int .i64 a0_3, .int .i64 a0_4, .int .u32 a0_5, .int .u32 a0_6, .int .u32 a0_7, .int .u32 a0_8, .int .u32 a0_9, .int .u32 a0_10, .int .u32 a0_11, .int .u32 a0_12] 25 (0, 0)) (by (with_reducible repeat (first | refine blk_drewN ?_ _ | refine blk_drew ?_ | refine blk_alloc ?_ _)); exact BK102.out) hb); have n1_ := Aside0.mk (below_step (by repeat (first | (with_reducible first | exact HB.out | apply below_alloc | apply pw_below_drewN | apply below_drew1 | refine below_set ?_ GE102.out) | exact HB.out)) hb); have n2_ := Aside0.mk (hbox); have n3_ := Aside0.mk ((by rw [hg]; exact (below_size (by repeat (first | (with_reducible first | exact HB.out | apply below_alloc | apply pw_below_drewN | apply below_drew1 | refine below_set ?_ GE102.out) | exact HB.out))) : w.heap.size ≤ gb103)); have n4_ := Aside0.mk ((by rw [hg]; exact (below_size (by repeat (first | (with_reducible first | exact HB.out | apply below_alloc | apply pw_below_drewN | apply below_drew1 | refine below_set ?_ GE102.out) | exact HB.out))) : w.heap.size ≤ gb103)); have n5_ := Aside0.mk ((by rw [hg]; exact Nat.ne_of_lt (blk_lt (g := gb102) (o := .cells #[.int .i64 a0_0, .int .i64 a0_1, .int .i64 a0_2, .int .i64 a0_3, .int .i64 a0_4, .int .u32 a0_5, .int .u32 a0_6, .int .u32 a0_7, .int .u32 a0_8, .int .u32 a0_9, .int .u32 a0_10, .int .u32 a0_11, .int .u32 a0_12] 25 (0, 0)) (by (with_reducible repeat (first | refine blk_drewN ?_ _ | refine blk_drew ?_ | refine blk_alloc ?_ _)); exact BK102.out)) : gb102 ≠ gb103)); have n6_ := Aside0.mk ((by rw [hg]; exact Nat.ne_of_gt (blk_lt (g := gb102) (o := .cells #[.int .i64 a0_0, .int .i64 a0_1, .int .i64 a0_2, .int .i64 a0_3, .int .i64 a0_4, .int .u32 a0_5, .int .u32 a0_6, .int .u32 a0_7, .int .u32 a0_8, .int .u32 a0_9, .int .u32 a0_10, .int .u32 a0_11, .int .u32 a0_12] 25 (0, 0)) (by (with_reducible repeat (first | refine blk_drewN ?_ _ | refine blk_drew ?_ | refine blk_alloc ?_ _)); exact BK102.out)) : gb103 ≠ gb102)); clear BK102; clear HB; have BK102 := n0_; have HB := n1_; have BK103 := n2_; have GW103 := n3_; have GE103 := n4_; have NB102_103 := n5_; have NB103_102 := n6_; clear n0_ n1_ n2_ n3_ n4_ n5_ n6_; clear hb hbox hg; have hnb8 := NB102_103.out; have hnc8 := NB103_102.out; have hcz9_0 : w7.cell? ⟨gb102, 0, none⟩ = some (.int .i64 a0_0) := (blk_cell BK102.out 0).trans rfl; have hcz9_1 : w7.cell? ⟨gb102, 1, none⟩ = some (.int .i64 a0_1) := (blk_cell BK102.out 1).trans rfl; have hcz9_2 : w7.cell? ⟨gb102, 2, none⟩ = some (.int .i64 a0_2) := (blk_cell BK102.out 2).trans rfl; have hcz9_3 : w7.cell? ⟨gb102, 3, none⟩ = some (.int .i64 a0_3) := (blk_cell BK102.out 3).trans rfl; have hcz9_4 : w7.cell? ⟨gb102, 4, none⟩ = some (.int .i64 a0_4) := (blk_cell BK102.out 4).trans rfl; have hcz9_5 : w7.cell? ⟨gb102, 5, none⟩ = some (.int .u32 a0_5) := (blk_cell BK102.out 5).trans rfl; have hcz9_6 : w7.cell? ⟨gb102, 6, none⟩ = some (.int .u32 a0_6) := (blk_cell BK102.out 6).trans rfl; have hcz9_7 : w7.cell? ⟨gb102, 7, none⟩ = some (.int .u32 a0_7) := (blk_cell BK102.out 7).trans rfl; have hcz9_8 : w7.cell? ⟨gb102, 8, none⟩ = some (.int .u32 a0_8) := (blk_cell BK102.out 8).trans rfl; have hcz9_9 : w7.cell? ⟨gb102, 9, none⟩ = some (.int .u32 a0_9) := (blk_cell BK102.out 9).trans rfl; have hcz9_10 : w7.cell? ⟨gb102, 10, none⟩ = some (.int .u32 a0_10) := (blk_cell BK102.out 10).trans rfl; have hcz9_11 : w7.cell? ⟨gb102, 11, none⟩ = some (.int .u32 a0_11) := (blk_cell BK102.out 11).trans rfl; have hcz9_12 : w7.cell? ⟨gb102, 12, none⟩ = some (.int .u32 a0_12) := (blk_cell BK102.out 12).trans rfl; have hfz9_0 := blk_frozen BK102.out 0; have hfz9_1 := blk_frozen BK102.out 1; have hfz9_2 := blk_frozen BK102.out 2; have hfz9_3 := blk_frozen BK102.out 3; have hfz9_4 := blk_frozen BK102.out 4; have hfz9_5 := blk_frozen BK102.out 5; have hfz9_6 := blk_frozen BK102.out 6; have hfz9_7 := blk_frozen BK102.out 7; have hfz9_8 := blk_frozen BK102.out 8; have hfz9_9 := blk_frozen BK102.out 9; have hfz9_10 := blk_frozen BK102.out 10; have hfz9_11 := blk_frozen BK102.out 11; have hfz9_12 := blk_frozen BK102.out 12) | ((with_reducible refine gate_callee (f := 13) rfl ?_); refine goesL_ (some 8) rfl rfl Try.func13 (by kernel_rfl) rfl #[.agg #[.int .i64 a0_0, .int .i64 a0_1, .int .i64 a0_2, .int .i64 a0_3, .int .i64 a0_4, .int .u32 a0_5, .int .u32 a0_6, .int .u32 a0_7, .int .u32 a0_8, .int .u32 a0_9, .int .u32 a0_10, .int .u32 a0_11, .int .u32 a0_12]] rfl (by (try simp only [List.map_toArray, List.map_cons, List.map_nil]); first | done | rfl | (simp only [List.length_drop, List.length_take]; rfl)) ?_; (with_reducible refine (zcheck.calls a0_0 a0_1 a0_2 a0_3 a0_4 a0_5 a0_6 a0_7 a0_8 a0_9 a0_10 a0_11 a0_12 t104 _ A3.out).mono ?_); rintro e w10 ⟨rfl, hb⟩; refine ⟨_, rfl, ?_⟩; have n0_ := Aside0.mk (blk_below (g := gb102) (o := .cells #[.int .i64 a0_0, .int .i64 a0_1, .int .i64 a0_2, .int .i64 a0_3, .int .i64 a0_4, .int .u32 a0_5, .int .u32 a0_6, .int .u32 a0_7, .int .u32 a0_8, .int .u32 a0_9, .int .u32 a0_10, .int .u32 a0_11, .int .u32 a0_12] 25 (0, 0)) (by (with_reducible repeat (first | refine blk_drewN ?_ _ | refine blk_drew ?_ | refine blk_alloc ?_ _)); exact BK102.out) hb); have n1_ := Aside0.mk (blk_below (g := gb103) (o := .cells #[.int .i64 a1_0, .int .i64 a1_1, .bool a1_2, .int .i64 a1_3, .int .i64 a1_4, .slice A1_5 l1_5.length c1_5] 35 (0, 0)) (by (with_reducible repeat (first | refine blk_drewN ?_ _ | refine blk_drew ?_ | refine blk_alloc ?_ _)); exact BK103.out) hb); have n2_ := Aside0.mk (below_step (by repeat (first | (with_reducible first | exact HB.out | apply below_alloc | apply pw_below_drewN | apply below_drew1 | refine below_set ?_ GE102.out | refine below_set ?_ GE103.out) | exact HB.out)) hb); clear BK102; clear BK103; clear HB; have BK102 := n0_; have BK103 := n1_; have HB := n2_; clear n0_ n1_ n2_; (try clear hb); (try clear hb2); (try clear hk); (try clear hi)))
    (try simp only [Act.put, List.setIfInBounds_toArray, List.set_cons_zero, List.set_cons_succ])
    go_cut [26] (fun v26 wc => ∃ (kq : Nat) (x26_4 : Bool), v26 = .bool x26_4 ∧ Aside0 (zonemap_May.j0 kq x26_4 a0_0 a0_1 a0_2 a0_3 a0_4 a0_5 a0_6 a0_7 a0_8 a0_9 a0_10 a0_11 a0_12 a1_0 a1_1 a1_2 a1_3 a1_4 l1_5 = some r) ∧ Aside0 (kq ≤ k) ∧ Aside0 (wc.heap[gb102]? = some (.cells #[.int .i64 a0_0, .int .i64 a0_1, .int .i64 a0_2, .int .i64 a0_3, .int .i64 a0_4, .int .u32 a0_5, .int .u32 a0_6, .int .u32 a0_7, .int .u32 a0_8, .int .u32 a0_9, .int .u32 a0_10, .int .u32 a0_11, .int .u32 a0_12] 25 (0, 0))) ∧ Aside0 (wc.heap[gb103]? = some (.cells #[.int .i64 a1_0, .int .i64 a1_1, .bool a1_2, .int .i64 a1_3, .int .i64 a1_4, (.slice A1_5 l1_5.length c1_5)] 35 (0, 0))) ∧ Aside0 (Below w.heap.size w wc))
    case first =>
      have H := HC5.out
      clear HC5
      by_cases c11 : a0_0 = 0
      · rw [if_pos c11] at H
        have c11b0 : (a0_0 == 0) = true := beq_iff_eq.mpr c11
        have c11b1 : (a0_0 != 0) = false := bne_eq_false_iff_eq.mpr c11
        clear c11
        (first | rw [c11b0] | (simp only [i64_w, i32_w]; rw [c11b0]) | rw [c11b1] | (simp only [i64_w, i32_w]; rw [c11b1]) | skip)
        have H' := Aside0.mk H
        clear H
        have hnb12 := NB102_103.out
        have hnc12 := NB103_102.out
        have hcz13_0 : w10.cell? ⟨gb102, 0, none⟩ = some (.int .i64 a0_0) := (blk_cell BK102.out 0).trans rfl
        have hcz13_1 : w10.cell? ⟨gb102, 1, none⟩ = some (.int .i64 a0_1) := (blk_cell BK102.out 1).trans rfl
        have hcz13_2 : w10.cell? ⟨gb102, 2, none⟩ = some (.int .i64 a0_2) := (blk_cell BK102.out 2).trans rfl
        have hcz13_3 : w10.cell? ⟨gb102, 3, none⟩ = some (.int .i64 a0_3) := (blk_cell BK102.out 3).trans rfl
        have hcz13_4 : w10.cell? ⟨gb102, 4, none⟩ = some (.int .i64 a0_4) := (blk_cell BK102.out 4).trans rfl
        have hcz13_5 : w10.cell? ⟨gb102, 5, none⟩ = some (.int .u32 a0_5) := (blk_cell BK102.out 5).trans rfl
        have hcz13_6 : w10.cell? ⟨gb102, 6, none⟩ = some (.int .u32 a0_6) := (blk_cell BK102.out 6).trans rfl
        have hcz13_7 : w10.cell? ⟨gb102, 7, none⟩ = some (.int .u32 a0_7) := (blk_cell BK102.out 7).trans rfl
        have hcz13_8 : w10.cell? ⟨gb102, 8, none⟩ = some (.int .u32 a0_8) := (blk_cell BK102.out 8).trans rfl
        have hcz13_9 : w10.cell? ⟨gb102, 9, none⟩ = some (.int .u32 a0_9) := (blk_cell BK102.out 9).trans rfl
        have hcz13_10 : w10.cell? ⟨gb102, 10, none⟩ = some (.int .u32 a0_10) := (blk_cell BK102.out 10).trans rfl
        have hcz13_11 : w10.cell? ⟨gb102, 11, none⟩ = some (.int .u32 a0_11) := (blk_cell BK102.out 11).trans rfl
        have hcz13_12 : w10.cell? ⟨gb102, 12, none⟩ = some (.int .u32 a0_12) := (blk_cell BK102.out 12).trans rfl
        have hfz13_0 := blk_frozen BK102.out 0
        have hfz13_1 := blk_frozen BK102.out 1
        have hfz13_2 := blk_frozen BK102.out 2
        have hfz13_3 := blk_frozen BK102.out 3
        have hfz13_4 := blk_frozen BK102.out 4
        have hfz13_5 := blk_frozen BK102.out 5
        have hfz13_6 := blk_frozen BK102.out 6
        have hfz13_7 := blk_frozen BK102.out 7
        have hfz13_8 := blk_frozen BK102.out 8
        have hfz13_9 := blk_frozen BK102.out 9
        have hfz13_10 := blk_frozen BK102.out 10
        have hfz13_11 := blk_frozen BK102.out 11
        have hfz13_12 := blk_frozen BK102.out 12
        go_wp2
        go_meet
        case rel => exact ⟨_, (true), (by first | rfl | (simp; done) | (simp [*]; done)), H', ⟨by first | omega | exact Nat.le_refl _⟩, ⟨by (with_reducible repeat (first | refine blk_drewN ?_ _ | refine blk_drew ?_ | refine blk_alloc ?_ _)); exact BK102.out⟩, ⟨by (with_reducible repeat (first | refine blk_drewN ?_ _ | refine blk_drew ?_ | refine blk_alloc ?_ _)); exact BK103.out⟩, ⟨by repeat (first | (with_reducible first | exact HB.out | apply below_alloc | apply pw_below_drewN | apply below_drew1 | refine below_set ?_ GE102.out | refine below_set ?_ GE103.out) | exact HB.out)⟩⟩
      · rw [if_neg c11] at H
        have c11b0 : (a0_0 == 0) = false := beq_eq_false_iff_ne.mpr c11
        have c11b1 : (a0_0 != 0) = true := bne_iff_ne.mpr c11
        (first | rw [c11b0] | (simp only [i64_w, i32_w]; rw [c11b0]) | rw [c11b1] | (simp only [i64_w, i32_w]; rw [c11b1]) | skip)
        by_cases c14 : a0_2 ≤ a1_0
        · rw [if_pos c14] at H
          have c14b0 : decide (a0_2 ≤ a1_0) = true := decide_eq_true c14
          clear c14
          have H' := Aside0.mk H
          clear H
          have hnb15 := NB102_103.out
          have hnc15 := NB103_102.out
          have hcz16_0 : w10.cell? ⟨gb102, 0, none⟩ = some (.int .i64 a0_0) := (blk_cell BK102.out 0).trans rfl
          have hcz16_1 : w10.cell? ⟨gb102, 1, none⟩ = some (.int .i64 a0_1) := (blk_cell BK102.out 1).trans rfl
          have hcz16_2 : w10.cell? ⟨gb102, 2, none⟩ = some (.int .i64 a0_2) := (blk_cell BK102.out 2).trans rfl
          have hcz16_3 : w10.cell? ⟨gb102, 3, none⟩ = some (.int .i64 a0_3) := (blk_cell BK102.out 3).trans rfl
          have hcz16_4 : w10.cell? ⟨gb102, 4, none⟩ = some (.int .i64 a0_4) := (blk_cell BK102.out 4).trans rfl
          have hcz16_5 : w10.cell? ⟨gb102, 5, none⟩ = some (.int .u32 a0_5) := (blk_cell BK102.out 5).trans rfl
          have hcz16_6 : w10.cell? ⟨gb102, 6, none⟩ = some (.int .u32 a0_6) := (blk_cell BK102.out 6).trans rfl
          have hcz16_7 : w10.cell? ⟨gb102, 7, none⟩ = some (.int .u32 a0_7) := (blk_cell BK102.out 7).trans rfl
          have hcz16_8 : w10.cell? ⟨gb102, 8, none⟩ = some (.int .u32 a0_8) := (blk_cell BK102.out 8).trans rfl
          have hcz16_9 : w10.cell? ⟨gb102, 9, none⟩ = some (.int .u32 a0_9) := (blk_cell BK102.out 9).trans rfl
          have hcz16_10 : w10.cell? ⟨gb102, 10, none⟩ = some (.int .u32 a0_10) := (blk_cell BK102.out 10).trans rfl
          have hcz16_11 : w10.cell? ⟨gb102, 11, none⟩ = some (.int .u32 a0_11) := (blk_cell BK102.out 11).trans rfl
          have hcz16_12 : w10.cell? ⟨gb102, 12, none⟩ = some (.int .u32 a0_12) := (blk_cell BK102.out 12).trans rfl
          have hfz16_0 := blk_frozen BK102.out 0
          have hfz16_1 := blk_frozen BK102.out 1
          have hfz16_2 := blk_frozen BK102.out 2
          have hfz16_3 := blk_frozen BK102.out 3
          have hfz16_4 := blk_frozen BK102.out 4
          have hfz16_5 := blk_frozen BK102.out 5
          have hfz16_6 := blk_frozen BK102.out 6
          have hfz16_7 := blk_frozen BK102.out 7
          have hfz16_8 := blk_frozen BK102.out 8
          have hfz16_9 := blk_frozen BK102.out 9
          have hfz16_10 := blk_frozen BK102.out 10
          have hfz16_11 := blk_frozen BK102.out 11
          have hfz16_12 := blk_frozen BK102.out 12
          have hcz17_0 : w10.cell? ⟨gb103, 0, none⟩ = some (.int .i64 a1_0) := (blk_cell BK103.out 0).trans rfl
          have hcz17_1 : w10.cell? ⟨gb103, 1, none⟩ = some (.int .i64 a1_1) := (blk_cell BK103.out 1).trans rfl
          have hcz17_2 : w10.cell? ⟨gb103, 2, none⟩ = some (.bool a1_2) := (blk_cell BK103.out 2).trans rfl
          have hcz17_3 : w10.cell? ⟨gb103, 3, none⟩ = some (.int .i64 a1_3) := (blk_cell BK103.out 3).trans rfl
          have hcz17_4 : w10.cell? ⟨gb103, 4, none⟩ = some (.int .i64 a1_4) := (blk_cell BK103.out 4).trans rfl
          have hcz17_5 : w10.cell? ⟨gb103, 5, none⟩ = some (.slice A1_5 l1_5.length c1_5) := (blk_cell BK103.out 5).trans rfl
          have hfz17_0 := blk_frozen BK103.out 0
          have hfz17_1 := blk_frozen BK103.out 1
          have hfz17_2 := blk_frozen BK103.out 2
          have hfz17_3 := blk_frozen BK103.out 3
          have hfz17_4 := blk_frozen BK103.out 4
          have hfz17_5 := blk_frozen BK103.out 5
          go_wp2
          go_meet
          case rel => exact ⟨_, (true), (by first | rfl | (simp; done) | (simp [*]; done)), H', ⟨by first | omega | exact Nat.le_refl _⟩, ⟨by (with_reducible repeat (first | refine blk_drewN ?_ _ | refine blk_drew ?_ | refine blk_alloc ?_ _)); exact BK102.out⟩, ⟨by (with_reducible repeat (first | refine blk_drewN ?_ _ | refine blk_drew ?_ | refine blk_alloc ?_ _)); exact BK103.out⟩, ⟨by repeat (first | (with_reducible first | exact HB.out | apply below_alloc | apply pw_below_drewN | apply below_drew1 | refine below_set ?_ GE102.out | refine below_set ?_ GE103.out) | exact HB.out)⟩⟩
        · rw [if_neg c14] at H
          have c14b0 : decide (a0_2 ≤ a1_0) = false := decide_eq_false c14
          clear c14
          have H' := Aside0.mk H
          clear H
          have hnb18 := NB102_103.out
          have hnc18 := NB103_102.out
          have hcz19_0 : w10.cell? ⟨gb102, 0, none⟩ = some (.int .i64 a0_0) := (blk_cell BK102.out 0).trans rfl
          have hcz19_1 : w10.cell? ⟨gb102, 1, none⟩ = some (.int .i64 a0_1) := (blk_cell BK102.out 1).trans rfl
          have hcz19_2 : w10.cell? ⟨gb102, 2, none⟩ = some (.int .i64 a0_2) := (blk_cell BK102.out 2).trans rfl
          have hcz19_3 : w10.cell? ⟨gb102, 3, none⟩ = some (.int .i64 a0_3) := (blk_cell BK102.out 3).trans rfl
          have hcz19_4 : w10.cell? ⟨gb102, 4, none⟩ = some (.int .i64 a0_4) := (blk_cell BK102.out 4).trans rfl
          have hcz19_5 : w10.cell? ⟨gb102, 5, none⟩ = some (.int .u32 a0_5) := (blk_cell BK102.out 5).trans rfl
          have hcz19_6 : w10.cell? ⟨gb102, 6, none⟩ = some (.int .u32 a0_6) := (blk_cell BK102.out 6).trans rfl
          have hcz19_7 : w10.cell? ⟨gb102, 7, none⟩ = some (.int .u32 a0_7) := (blk_cell BK102.out 7).trans rfl
          have hcz19_8 : w10.cell? ⟨gb102, 8, none⟩ = some (.int .u32 a0_8) := (blk_cell BK102.out 8).trans rfl
          have hcz19_9 : w10.cell? ⟨gb102, 9, none⟩ = some (.int .u32 a0_9) := (blk_cell BK102.out 9).trans rfl
          have hcz19_10 : w10.cell? ⟨gb102, 10, none⟩ = some (.int .u32 a0_10) := (blk_cell BK102.out 10).trans rfl
          have hcz19_11 : w10.cell? ⟨gb102, 11, none⟩ = some (.int .u32 a0_11) := (blk_cell BK102.out 11).trans rfl
          have hcz19_12 : w10.cell? ⟨gb102, 12, none⟩ = some (.int .u32 a0_12) := (blk_cell BK102.out 12).trans rfl
          have hfz19_0 := blk_frozen BK102.out 0
          have hfz19_1 := blk_frozen BK102.out 1
          have hfz19_2 := blk_frozen BK102.out 2
          have hfz19_3 := blk_frozen BK102.out 3
          have hfz19_4 := blk_frozen BK102.out 4
          have hfz19_5 := blk_frozen BK102.out 5
          have hfz19_6 := blk_frozen BK102.out 6
          have hfz19_7 := blk_frozen BK102.out 7
          have hfz19_8 := blk_frozen BK102.out 8
          have hfz19_9 := blk_frozen BK102.out 9
          have hfz19_10 := blk_frozen BK102.out 10
          have hfz19_11 := blk_frozen BK102.out 11
          have hfz19_12 := blk_frozen BK102.out 12
          have hcz20_0 : w10.cell? ⟨gb103, 0, none⟩ = some (.int .i64 a1_0) := (blk_cell BK103.out 0).trans rfl
          have hcz20_1 : w10.cell? ⟨gb103, 1, none⟩ = some (.int .i64 a1_1) := (blk_cell BK103.out 1).trans rfl
          have hcz20_2 : w10.cell? ⟨gb103, 2, none⟩ = some (.bool a1_2) := (blk_cell BK103.out 2).trans rfl
          have hcz20_3 : w10.cell? ⟨gb103, 3, none⟩ = some (.int .i64 a1_3) := (blk_cell BK103.out 3).trans rfl
          have hcz20_4 : w10.cell? ⟨gb103, 4, none⟩ = some (.int .i64 a1_4) := (blk_cell BK103.out 4).trans rfl
          have hcz20_5 : w10.cell? ⟨gb103, 5, none⟩ = some (.slice A1_5 l1_5.length c1_5) := (blk_cell BK103.out 5).trans rfl
          have hfz20_0 := blk_frozen BK103.out 0
          have hfz20_1 := blk_frozen BK103.out 1
          have hfz20_2 := blk_frozen BK103.out 2
          have hfz20_3 := blk_frozen BK103.out 3
          have hfz20_4 := blk_frozen BK103.out 4
          have hfz20_5 := blk_frozen BK103.out 5
          go_wp2
          go_meet
          case rel => exact ⟨_, (decide (a0_1 > a1_1)), (by first | rfl | (simp; done) | (simp [*]; done)), H', ⟨by first | omega | exact Nat.le_refl _⟩, ⟨by (with_reducible repeat (first | refine blk_drewN ?_ _ | refine blk_drew ?_ | refine blk_alloc ?_ _)); exact BK102.out⟩, ⟨by (with_reducible repeat (first | refine blk_drewN ?_ _ | refine blk_drew ?_ | refine blk_alloc ?_ _)); exact BK103.out⟩, ⟨by repeat (first | (with_reducible first | exact HB.out | apply below_alloc | apply pw_below_drewN | apply below_drew1 | refine below_set ?_ GE102.out | refine below_set ?_ GE103.out) | exact HB.out)⟩⟩
    case rest =>
      clear HC5
      try clear c1
      try clear c2
      try clear p2
      try clear c4
      try clear c4b0
      try clear c4b1
      try clear c8
      try clear c11
      try clear c11b0
      try clear c11b1
      try clear c12
      try clear c13
      try clear c14
      try clear c14b0
      try clear c15
      try clear c18
      try clear hcz13_0
      try clear hcz13_1
      try clear hcz13_10
      try clear hcz13_11
      try clear hcz13_12
      try clear hcz13_2
      try clear hcz13_3
      try clear hcz13_4
      try clear hcz13_5
      try clear hcz13_6
      try clear hcz13_7
      try clear hcz13_8
      try clear hcz13_9
      try clear hcz16_0
      try clear hcz16_1
      try clear hcz16_10
      try clear hcz16_11
      try clear hcz16_12
      try clear hcz16_2
      try clear hcz16_3
      try clear hcz16_4
      try clear hcz16_5
      try clear hcz16_6
      try clear hcz16_7
      try clear hcz16_8
      try clear hcz16_9
      try clear hcz17_0
      try clear hcz17_1
      try clear hcz17_2
      try clear hcz17_3
      try clear hcz17_4
      try clear hcz17_5
      try clear hcz19_0
      try clear hcz19_1
      try clear hcz19_10
      try clear hcz19_11
      try clear hcz19_12
      try clear hcz19_2
      try clear hcz19_3
      try clear hcz19_4
      try clear hcz19_5
      try clear hcz19_6
      try clear hcz19_7
      try clear hcz19_8
      try clear hcz19_9
      try clear hcz20_0
      try clear hcz20_1
      try clear hcz20_2
      try clear hcz20_3
      try clear hcz20_4
      try clear hcz20_5
      try clear hcz9_0
      try clear hcz9_1
      try clear hcz9_10
      try clear hcz9_11
      try clear hcz9_12
      try clear hcz9_2
      try clear hcz9_3
      try clear hcz9_4
      try clear hcz9_5
      try clear hcz9_6
      try clear hcz9_7
      try clear hcz9_8
      try clear hcz9_9
      try clear hfz13_0
      try clear hfz13_1
      try clear hfz13_10
      try clear hfz13_11
      try clear hfz13_12
      try clear hfz13_2
      try clear hfz13_3
      try clear hfz13_4
      try clear hfz13_5
      try clear hfz13_6
      try clear hfz13_7
      try clear hfz13_8
      try clear hfz13_9
      try clear hfz16_0
      try clear hfz16_1
      try clear hfz16_10
      try clear hfz16_11
      try clear hfz16_12
      try clear hfz16_2
      try clear hfz16_3
      try clear hfz16_4
      try clear hfz16_5
      try clear hfz16_6
      try clear hfz16_7
      try clear hfz16_8
      try clear hfz16_9
      try clear hfz17_0
      try clear hfz17_1
      try clear hfz17_2
      try clear hfz17_3
      try clear hfz17_4
      try clear hfz17_5
      try clear hfz19_0
      try clear hfz19_1
      try clear hfz19_10
      try clear hfz19_11
      try clear hfz19_12
      try clear hfz19_2
      try clear hfz19_3
      try clear hfz19_4
      try clear hfz19_5
      try clear hfz19_6
      try clear hfz19_7
      try clear hfz19_8
      try clear hfz19_9
      try clear hfz20_0
      try clear hfz20_1
      try clear hfz20_2
      try clear hfz20_3
      try clear hfz20_4
      try clear hfz20_5
      try clear hfz9_0
      try clear hfz9_1
      try clear hfz9_10
      try clear hfz9_11
      try clear hfz9_12
      try clear hfz9_2
      try clear hfz9_3
      try clear hfz9_4
      try clear hfz9_5
      try clear hfz9_6
      try clear hfz9_7
      try clear hfz9_8
      try clear hfz9_9
      obtain ⟨kq, x26_4, rfl, HA, HJ4, BK102, BK103, HB⟩ := hcut
      cases kq with
      | zero => exact absurd HA.out (by simp [zonemap_May.j0])
      | succ kj4 =>
        have H := HA.out
        clear HA
        simp only [zonemap_May.j0] at H
        by_cases c21 : x26_4 = true
        · subst c21
          have H1 : (some false) = some r := by rw [if_pos rfl] at H; exact H
          clear H
          have H := H1
          clear H1
          obtain rfl := Option.some.inj H
          go_wp2
          go_ret
          exact ⟨by first | rfl | (simp [errW_none, errW_some] <;> rfl) | (simp [*, errW_none, errW_some] <;> rfl), by repeat (first | (with_reducible first | exact HB.out | apply below_alloc | apply pw_below_drewN | apply below_drew1 | refine below_set ?_ GE102.out | refine below_set ?_ GE103.out) | exact HB.out)⟩
        · replace c21 := Bool.eq_false_iff.mpr c21
          subst c21
          have H1 : (if a1_2 = true then (if a0_4 < a1_3 then (zonemap_May.j1 kj4 true a0_0 a0_1 a0_2 a0_3 a0_4 a0_5 a0_6 a0_7 a0_8 a0_9 a0_10 a0_11 a0_12 a1_0 a1_1 a1_2 a1_3 a1_4 l1_5) else (zonemap_May.j1 kj4 (decide (a0_3 > a1_4)) a0_0 a0_1 a0_2 a0_3 a0_4 a0_5 a0_6 a0_7 a0_8 a0_9 a0_10 a0_11 a0_12 a1_0 a1_1 a1_2 a1_3 a1_4 l1_5)) else (zonemap_May.j1 kj4 false a0_0 a0_1 a0_2 a0_3 a0_4 a0_5 a0_6 a0_7 a0_8 a0_9 a0_10 a0_11 a0_12 a1_0 a1_1 a1_2 a1_3 a1_4 l1_5)) = some r := by rw [if_neg (show ¬ (false = true) by decide)] at H; exact H
          clear H
          have H := H1
          clear H1
          have HC22 := Aside0.mk H
          clear H
          go_upto_region 5 with (fail)
          go_cut [42] (fun v42 wc => ∃ (kq : Nat) (x42_21 : Bool), v42 = .bool x42_21 ∧ Aside0 (zonemap_May.j1 kq x42_21 a0_0 a0_1 a0_2 a0_3 a0_4 a0_5 a0_6 a0_7 a0_8 a0_9 a0_10 a0_11 a0_12 a1_0 a1_1 a1_2 a1_3 a1_4 l1_5 = some r) ∧ Aside0 (kq ≤ kj4) ∧ Aside0 (wc.heap[gb102]? = some (.cells #[.int .i64 a0_0, .int .i64 a0_1, .int .i64 a0_2, .int .i64 a0_3, .int .i64 a0_4, .int .u32 a0_5, .int .u32 a0_6, .int .u32 a0_7, .int .u32 a0_8, .int .u32 a0_9, .int .u32 a0_10, .int .u32 a0_11, .int .u32 a0_12] 25 (0, 0))) ∧ Aside0 (wc.heap[gb103]? = some (.cells #[.int .i64 a1_0, .int .i64 a1_1, .bool a1_2, .int .i64 a1_3, .int .i64 a1_4, (.slice A1_5 l1_5.length c1_5)] 35 (0, 0))) ∧ Aside0 (Below w.heap.size w wc))
          case first =>
            have H := HC22.out
            clear HC22
            by_cases c23 : a1_2 = true
            · subst c23
              have H1 : (if a0_4 < a1_3 then (zonemap_May.j1 kj4 true a0_0 a0_1 a0_2 a0_3 a0_4 a0_5 a0_6 a0_7 a0_8 a0_9 a0_10 a0_11 a0_12 a1_0 a1_1 true a1_3 a1_4 l1_5) else (zonemap_May.j1 kj4 (decide (a0_3 > a1_4)) a0_0 a0_1 a0_2 a0_3 a0_4 a0_5 a0_6 a0_7 a0_8 a0_9 a0_10 a0_11 a0_12 a1_0 a1_1 true a1_3 a1_4 l1_5)) = some r := by rw [if_pos rfl] at H; exact H
              clear H
              have H := H1
              clear H1
              by_cases c24 : a0_4 < a1_3
              · rw [if_pos c24] at H
                have c24b0 : decide (a0_4 < a1_3) = true := decide_eq_true c24
                clear c24
                (first | rw [c24b0] | (simp only [i64_w, i32_w]; rw [c24b0]) | rw [c24b1] | (simp only [i64_w, i32_w]; rw [c24b1]) | skip)
                have H' := Aside0.mk H
                clear H
                have hnb25 := NB103_102.out
                have hnc25 := NB102_103.out
                have hcz26_0 : wc.cell? ⟨gb103, 0, none⟩ = some (.int .i64 a1_0) := (blk_cell BK103.out 0).trans rfl
                have hcz26_1 : wc.cell? ⟨gb103, 1, none⟩ = some (.int .i64 a1_1) := (blk_cell BK103.out 1).trans rfl
                have hcz26_2 : wc.cell? ⟨gb103, 2, none⟩ = some (.bool true) := (blk_cell BK103.out 2).trans rfl
                have hcz26_3 : wc.cell? ⟨gb103, 3, none⟩ = some (.int .i64 a1_3) := (blk_cell BK103.out 3).trans rfl
                have hcz26_4 : wc.cell? ⟨gb103, 4, none⟩ = some (.int .i64 a1_4) := (blk_cell BK103.out 4).trans rfl
                have hcz26_5 : wc.cell? ⟨gb103, 5, none⟩ = some (.slice A1_5 l1_5.length c1_5) := (blk_cell BK103.out 5).trans rfl
                have hfz26_0 := blk_frozen BK103.out 0
                have hfz26_1 := blk_frozen BK103.out 1
                have hfz26_2 := blk_frozen BK103.out 2
                have hfz26_3 := blk_frozen BK103.out 3
                have hfz26_4 := blk_frozen BK103.out 4
                have hfz26_5 := blk_frozen BK103.out 5
                have hcz27_0 : wc.cell? ⟨gb102, 0, none⟩ = some (.int .i64 a0_0) := (blk_cell BK102.out 0).trans rfl
                have hcz27_1 : wc.cell? ⟨gb102, 1, none⟩ = some (.int .i64 a0_1) := (blk_cell BK102.out 1).trans rfl
                have hcz27_2 : wc.cell? ⟨gb102, 2, none⟩ = some (.int .i64 a0_2) := (blk_cell BK102.out 2).trans rfl
                have hcz27_3 : wc.cell? ⟨gb102, 3, none⟩ = some (.int .i64 a0_3) := (blk_cell BK102.out 3).trans rfl
                have hcz27_4 : wc.cell? ⟨gb102, 4, none⟩ = some (.int .i64 a0_4) := (blk_cell BK102.out 4).trans rfl
                have hcz27_5 : wc.cell? ⟨gb102, 5, none⟩ = some (.int .u32 a0_5) := (blk_cell BK102.out 5).trans rfl
                have hcz27_6 : wc.cell? ⟨gb102, 6, none⟩ = some (.int .u32 a0_6) := (blk_cell BK102.out 6).trans rfl
                have hcz27_7 : wc.cell? ⟨gb102, 7, none⟩ = some (.int .u32 a0_7) := (blk_cell BK102.out 7).trans rfl
                have hcz27_8 : wc.cell? ⟨gb102, 8, none⟩ = some (.int .u32 a0_8) := (blk_cell BK102.out 8).trans rfl
                have hcz27_9 : wc.cell? ⟨gb102, 9, none⟩ = some (.int .u32 a0_9) := (blk_cell BK102.out 9).trans rfl
                have hcz27_10 : wc.cell? ⟨gb102, 10, none⟩ = some (.int .u32 a0_10) := (blk_cell BK102.out 10).trans rfl
                have hcz27_11 : wc.cell? ⟨gb102, 11, none⟩ = some (.int .u32 a0_11) := (blk_cell BK102.out 11).trans rfl
                have hcz27_12 : wc.cell? ⟨gb102, 12, none⟩ = some (.int .u32 a0_12) := (blk_cell BK102.out 12).trans rfl
                have hfz27_0 := blk_frozen BK102.out 0
                have hfz27_1 := blk_frozen BK102.out 1
                have hfz27_2 := blk_frozen BK102.out 2
                have hfz27_3 := blk_frozen BK102.out 3
                have hfz27_4 := blk_frozen BK102.out 4
                have hfz27_5 := blk_frozen BK102.out 5
                have hfz27_6 := blk_frozen BK102.out 6
                have hfz27_7 := blk_frozen BK102.out 7
                have hfz27_8 := blk_frozen BK102.out 8
                have hfz27_9 := blk_frozen BK102.out 9
                have hfz27_10 := blk_frozen BK102.out 10
                have hfz27_11 := blk_frozen BK102.out 11
                have hfz27_12 := blk_frozen BK102.out 12
                go_wp2
                go_meet
                case rel => exact ⟨_, (true), (by first | rfl | (simp; done) | (simp [*]; done)), H', ⟨by have := HJ4.out; first | omega | exact Nat.le_refl _⟩, ⟨by (with_reducible repeat (first | refine blk_drewN ?_ _ | refine blk_drew ?_ | refine blk_alloc ?_ _)); exact BK102.out⟩, ⟨by (with_reducible repeat (first | refine blk_drewN ?_ _ | refine blk_drew ?_ | refine blk_alloc ?_ _)); exact BK103.out⟩, ⟨by repeat (first | (with_reducible first | exact HB.out | apply below_alloc | apply pw_below_drewN | apply below_drew1 | refine below_set ?_ GE102.out | refine below_set ?_ GE103.out) | exact HB.out)⟩⟩
              · rw [if_neg c24] at H
                have c24b0 : decide (a0_4 < a1_3) = false := decide_eq_false c24
                clear c24
                (first | rw [c24b0] | (simp only [i64_w, i32_w]; rw [c24b0]) | rw [c24b1] | (simp only [i64_w, i32_w]; rw [c24b1]) | skip)
                have H' := Aside0.mk H
                clear H
                have hnb28 := NB103_102.out
                have hnc28 := NB102_103.out
                have hcz29_0 : wc.cell? ⟨gb103, 0, none⟩ = some (.int .i64 a1_0) := (blk_cell BK103.out 0).trans rfl
                have hcz29_1 : wc.cell? ⟨gb103, 1, none⟩ = some (.int .i64 a1_1) := (blk_cell BK103.out 1).trans rfl
                have hcz29_2 : wc.cell? ⟨gb103, 2, none⟩ = some (.bool true) := (blk_cell BK103.out 2).trans rfl
                have hcz29_3 : wc.cell? ⟨gb103, 3, none⟩ = some (.int .i64 a1_3) := (blk_cell BK103.out 3).trans rfl
                have hcz29_4 : wc.cell? ⟨gb103, 4, none⟩ = some (.int .i64 a1_4) := (blk_cell BK103.out 4).trans rfl
                have hcz29_5 : wc.cell? ⟨gb103, 5, none⟩ = some (.slice A1_5 l1_5.length c1_5) := (blk_cell BK103.out 5).trans rfl
                have hfz29_0 := blk_frozen BK103.out 0
                have hfz29_1 := blk_frozen BK103.out 1
                have hfz29_2 := blk_frozen BK103.out 2
                have hfz29_3 := blk_frozen BK103.out 3
                have hfz29_4 := blk_frozen BK103.out 4
                have hfz29_5 := blk_frozen BK103.out 5
                have hcz30_0 : wc.cell? ⟨gb102, 0, none⟩ = some (.int .i64 a0_0) := (blk_cell BK102.out 0).trans rfl
                have hcz30_1 : wc.cell? ⟨gb102, 1, none⟩ = some (.int .i64 a0_1) := (blk_cell BK102.out 1).trans rfl
                have hcz30_2 : wc.cell? ⟨gb102, 2, none⟩ = some (.int .i64 a0_2) := (blk_cell BK102.out 2).trans rfl
                have hcz30_3 : wc.cell? ⟨gb102, 3, none⟩ = some (.int .i64 a0_3) := (blk_cell BK102.out 3).trans rfl
                have hcz30_4 : wc.cell? ⟨gb102, 4, none⟩ = some (.int .i64 a0_4) := (blk_cell BK102.out 4).trans rfl
                have hcz30_5 : wc.cell? ⟨gb102, 5, none⟩ = some (.int .u32 a0_5) := (blk_cell BK102.out 5).trans rfl
                have hcz30_6 : wc.cell? ⟨gb102, 6, none⟩ = some (.int .u32 a0_6) := (blk_cell BK102.out 6).trans rfl
                have hcz30_7 : wc.cell? ⟨gb102, 7, none⟩ = some (.int .u32 a0_7) := (blk_cell BK102.out 7).trans rfl
                have hcz30_8 : wc.cell? ⟨gb102, 8, none⟩ = some (.int .u32 a0_8) := (blk_cell BK102.out 8).trans rfl
                have hcz30_9 : wc.cell? ⟨gb102, 9, none⟩ = some (.int .u32 a0_9) := (blk_cell BK102.out 9).trans rfl
                have hcz30_10 : wc.cell? ⟨gb102, 10, none⟩ = some (.int .u32 a0_10) := (blk_cell BK102.out 10).trans rfl
                have hcz30_11 : wc.cell? ⟨gb102, 11, none⟩ = some (.int .u32 a0_11) := (blk_cell BK102.out 11).trans rfl
                have hcz30_12 : wc.cell? ⟨gb102, 12, none⟩ = some (.int .u32 a0_12) := (blk_cell BK102.out 12).trans rfl
                have hfz30_0 := blk_frozen BK102.out 0
                have hfz30_1 := blk_frozen BK102.out 1
                have hfz30_2 := blk_frozen BK102.out 2
                have hfz30_3 := blk_frozen BK102.out 3
                have hfz30_4 := blk_frozen BK102.out 4
                have hfz30_5 := blk_frozen BK102.out 5
                have hfz30_6 := blk_frozen BK102.out 6
                have hfz30_7 := blk_frozen BK102.out 7
                have hfz30_8 := blk_frozen BK102.out 8
                have hfz30_9 := blk_frozen BK102.out 9
                have hfz30_10 := blk_frozen BK102.out 10
                have hfz30_11 := blk_frozen BK102.out 11
                have hfz30_12 := blk_frozen BK102.out 12
                go_wp2
                go_meet
                case rel => exact ⟨_, (decide (a0_3 > a1_4)), (by first | rfl | (simp; done) | (simp [*]; done)), H', ⟨by have := HJ4.out; first | omega | exact Nat.le_refl _⟩, ⟨by (with_reducible repeat (first | refine blk_drewN ?_ _ | refine blk_drew ?_ | refine blk_alloc ?_ _)); exact BK102.out⟩, ⟨by (with_reducible repeat (first | refine blk_drewN ?_ _ | refine blk_drew ?_ | refine blk_alloc ?_ _)); exact BK103.out⟩, ⟨by repeat (first | (with_reducible first | exact HB.out | apply below_alloc | apply pw_below_drewN | apply below_drew1 | refine below_set ?_ GE102.out | refine below_set ?_ GE103.out) | exact HB.out)⟩⟩
            · replace c23 := Bool.eq_false_iff.mpr c23
              subst c23
              have H1 : (zonemap_May.j1 kj4 false a0_0 a0_1 a0_2 a0_3 a0_4 a0_5 a0_6 a0_7 a0_8 a0_9 a0_10 a0_11 a0_12 a1_0 a1_1 false a1_3 a1_4 l1_5) = some r := by rw [if_neg (show ¬ (false = true) by decide)] at H; exact H
              clear H
              have H := H1
              clear H1
              have H' := Aside0.mk H
              clear H
              have hnb31 := NB103_102.out
              have hnc31 := NB102_103.out
              have hcz32_0 : wc.cell? ⟨gb103, 0, none⟩ = some (.int .i64 a1_0) := (blk_cell BK103.out 0).trans rfl
              have hcz32_1 : wc.cell? ⟨gb103, 1, none⟩ = some (.int .i64 a1_1) := (blk_cell BK103.out 1).trans rfl
              have hcz32_2 : wc.cell? ⟨gb103, 2, none⟩ = some (.bool false) := (blk_cell BK103.out 2).trans rfl
              have hcz32_3 : wc.cell? ⟨gb103, 3, none⟩ = some (.int .i64 a1_3) := (blk_cell BK103.out 3).trans rfl
              have hcz32_4 : wc.cell? ⟨gb103, 4, none⟩ = some (.int .i64 a1_4) := (blk_cell BK103.out 4).trans rfl
              have hcz32_5 : wc.cell? ⟨gb103, 5, none⟩ = some (.slice A1_5 l1_5.length c1_5) := (blk_cell BK103.out 5).trans rfl
              have hfz32_0 := blk_frozen BK103.out 0
              have hfz32_1 := blk_frozen BK103.out 1
              have hfz32_2 := blk_frozen BK103.out 2
              have hfz32_3 := blk_frozen BK103.out 3
              have hfz32_4 := blk_frozen BK103.out 4
              have hfz32_5 := blk_frozen BK103.out 5
              go_wp2
              go_meet
              case rel => exact ⟨_, (false), (by first | rfl | (simp; done) | (simp [*]; done)), H', ⟨by have := HJ4.out; first | omega | exact Nat.le_refl _⟩, ⟨by (with_reducible repeat (first | refine blk_drewN ?_ _ | refine blk_drew ?_ | refine blk_alloc ?_ _)); exact BK102.out⟩, ⟨by (with_reducible repeat (first | refine blk_drewN ?_ _ | refine blk_drew ?_ | refine blk_alloc ?_ _)); exact BK103.out⟩, ⟨by repeat (first | (with_reducible first | exact HB.out | apply below_alloc | apply pw_below_drewN | apply below_drew1 | refine below_set ?_ GE102.out | refine below_set ?_ GE103.out) | exact HB.out)⟩⟩
          case rest =>
            clear HC22
            try clear c1
            try clear c2
            try clear p2
            try clear c3
            try clear c4
            try clear c4b0
            try clear c4b1
            try clear c8
            try clear c11
            try clear c11b0
            try clear c11b1
            try clear c12
            try clear c13
            try clear c14
            try clear c14b0
            try clear c15
            try clear c18
            try clear c21
            try clear c23
            try clear c24
            try clear c24b0
            try clear c24b1
            try clear c25
            try clear c28
            try clear c31
            try clear hcz13_0
            try clear hcz13_1
            try clear hcz13_10
            try clear hcz13_11
            try clear hcz13_12
            try clear hcz13_2
            try clear hcz13_3
            try clear hcz13_4
            try clear hcz13_5
            try clear hcz13_6
            try clear hcz13_7
            try clear hcz13_8
            try clear hcz13_9
            try clear hcz16_0
            try clear hcz16_1
            try clear hcz16_10
            try clear hcz16_11
            try clear hcz16_12
            try clear hcz16_2
            try clear hcz16_3
            try clear hcz16_4
            try clear hcz16_5
            try clear hcz16_6
            try clear hcz16_7
            try clear hcz16_8
            try clear hcz16_9
            try clear hcz17_0
            try clear hcz17_1
            try clear hcz17_2
            try clear hcz17_3
            try clear hcz17_4
            try clear hcz17_5
            try clear hcz19_0
            try clear hcz19_1
            try clear hcz19_10
            try clear hcz19_11
            try clear hcz19_12
            try clear hcz19_2
            try clear hcz19_3
            try clear hcz19_4
            try clear hcz19_5
            try clear hcz19_6
            try clear hcz19_7
            try clear hcz19_8
            try clear hcz19_9
            try clear hcz20_0
            try clear hcz20_1
            try clear hcz20_2
            try clear hcz20_3
            try clear hcz20_4
            try clear hcz20_5
            try clear hcz26_0
            try clear hcz26_1
            try clear hcz26_2
            try clear hcz26_3
            try clear hcz26_4
            try clear hcz26_5
            try clear hcz27_0
            try clear hcz27_1
            try clear hcz27_10
            try clear hcz27_11
            try clear hcz27_12
            try clear hcz27_2
            try clear hcz27_3
            try clear hcz27_4
            try clear hcz27_5
            try clear hcz27_6
            try clear hcz27_7
            try clear hcz27_8
            try clear hcz27_9
            try clear hcz29_0
            try clear hcz29_1
            try clear hcz29_2
            try clear hcz29_3
            try clear hcz29_4
            try clear hcz29_5
            try clear hcz30_0
            try clear hcz30_1
            try clear hcz30_10
            try clear hcz30_11
            try clear hcz30_12
            try clear hcz30_2
            try clear hcz30_3
            try clear hcz30_4
            try clear hcz30_5
            try clear hcz30_6
            try clear hcz30_7
            try clear hcz30_8
            try clear hcz30_9
            try clear hcz32_0
            try clear hcz32_1
            try clear hcz32_2
            try clear hcz32_3
            try clear hcz32_4
            try clear hcz32_5
            try clear hcz9_0
            try clear hcz9_1
            try clear hcz9_10
            try clear hcz9_11
            try clear hcz9_12
            try clear hcz9_2
            try clear hcz9_3
            try clear hcz9_4
            try clear hcz9_5
            try clear hcz9_6
            try clear hcz9_7
            try clear hcz9_8
            try clear hcz9_9
            try clear hfz13_0
            try clear hfz13_1
            try clear hfz13_10
            try clear hfz13_11
            try clear hfz13_12
            try clear hfz13_2
            try clear hfz13_3
            try clear hfz13_4
            try clear hfz13_5
            try clear hfz13_6
            try clear hfz13_7
            try clear hfz13_8
            try clear hfz13_9
            try clear hfz16_0
            try clear hfz16_1
            try clear hfz16_10
            try clear hfz16_11
            try clear hfz16_12
            try clear hfz16_2
            try clear hfz16_3
            try clear hfz16_4
            try clear hfz16_5
            try clear hfz16_6
            try clear hfz16_7
            try clear hfz16_8
            try clear hfz16_9
            try clear hfz17_0
            try clear hfz17_1
            try clear hfz17_2
            try clear hfz17_3
            try clear hfz17_4
            try clear hfz17_5
            try clear hfz19_0
            try clear hfz19_1
            try clear hfz19_10
            try clear hfz19_11
            try clear hfz19_12
            try clear hfz19_2
            try clear hfz19_3
            try clear hfz19_4
            try clear hfz19_5
            try clear hfz19_6
            try clear hfz19_7
            try clear hfz19_8
            try clear hfz19_9
            try clear hfz20_0
            try clear hfz20_1
            try clear hfz20_2
            try clear hfz20_3
            try clear hfz20_4
            try clear hfz20_5
            try clear hfz26_0
            try clear hfz26_1
            try clear hfz26_2
            try clear hfz26_3
            try clear hfz26_4
            try clear hfz26_5
            try clear hfz27_0
            try clear hfz27_1
            try clear hfz27_10
            try clear hfz27_11
            try clear hfz27_12
            try clear hfz27_2
            try clear hfz27_3
            try clear hfz27_4
            try clear hfz27_5
            try clear hfz27_6
            try clear hfz27_7
            try clear hfz27_8
            try clear hfz27_9
            try clear hfz29_0
            try clear hfz29_1
            try clear hfz29_2
            try clear hfz29_3
            try clear hfz29_4
            try clear hfz29_5
            try clear hfz30_0
            try clear hfz30_1
            try clear hfz30_10
            try clear hfz30_11
            try clear hfz30_12
            try clear hfz30_2
            try clear hfz30_3
            try clear hfz30_4
            try clear hfz30_5
            try clear hfz30_6
            try clear hfz30_7
            try clear hfz30_8
            try clear hfz30_9
            try clear hfz32_0
            try clear hfz32_1
            try clear hfz32_2
            try clear hfz32_3
            try clear hfz32_4
            try clear hfz32_5
            try clear hfz9_0
            try clear hfz9_1
            try clear hfz9_10
            try clear hfz9_11
            try clear hfz9_12
            try clear hfz9_2
            try clear hfz9_3
            try clear hfz9_4
            try clear hfz9_5
            try clear hfz9_6
            try clear hfz9_7
            try clear hfz9_8
            try clear hfz9_9
            try clear p2
            obtain ⟨kq, x42_21, rfl, HA, HJ21, BK102, BK103, HB⟩ := hcut
            cases kq with
            | zero => exact absurd HA.out (by simp [zonemap_May.j1])
            | succ kj21 =>
              have H := HA.out
              clear HA
              simp only [zonemap_May.j1] at H
              by_cases c33 : x42_21 = true
              · subst c33
                have H1 : (some false) = some r := by rw [if_pos rfl] at H; exact H
                clear H
                have H := H1
                clear H1
                obtain rfl := Option.some.inj H
                go_wp2
                go_ret
                exact ⟨by first | rfl | (simp [errW_none, errW_some] <;> rfl) | (simp [*, errW_none, errW_some] <;> rfl), by repeat (first | (with_reducible first | exact HB.out | apply below_alloc | apply pw_below_drewN | apply below_drew1 | refine below_set ?_ GE102.out | refine below_set ?_ GE103.out) | exact HB.out)⟩
              · replace c33 := Bool.eq_false_iff.mpr c33
                subst c33
                have H1 : (zonemap_May.l0 kj21 l1_5 (l1_5.length : Int) 0 a0_0 a0_1 a0_2 a0_3 a0_4 a0_5 a0_6 a0_7 a0_8 a0_9 a0_10 a0_11 a0_12) = some r := by rw [if_neg (show ¬ (false = true) by decide)] at H; exact H
                clear H
                have H := H1
                clear H1
                have H' := Aside0.mk H
                clear H
                have hnb34 := NB103_102.out
                have hnc34 := NB102_103.out
                have hcz35_0 : wc.cell? ⟨gb103, 0, none⟩ = some (.int .i64 a1_0) := (blk_cell BK103.out 0).trans rfl
                have hcz35_1 : wc.cell? ⟨gb103, 1, none⟩ = some (.int .i64 a1_1) := (blk_cell BK103.out 1).trans rfl
                have hcz35_2 : wc.cell? ⟨gb103, 2, none⟩ = some (.bool a1_2) := (blk_cell BK103.out 2).trans rfl
                have hcz35_3 : wc.cell? ⟨gb103, 3, none⟩ = some (.int .i64 a1_3) := (blk_cell BK103.out 3).trans rfl
                have hcz35_4 : wc.cell? ⟨gb103, 4, none⟩ = some (.int .i64 a1_4) := (blk_cell BK103.out 4).trans rfl
                have hcz35_5 : wc.cell? ⟨gb103, 5, none⟩ = some (.slice A1_5 l1_5.length c1_5) := (blk_cell BK103.out 5).trans rfl
                have hfz35_0 := blk_frozen BK103.out 0
                have hfz35_1 := blk_frozen BK103.out 1
                have hfz35_2 := blk_frozen BK103.out 2
                have hfz35_3 := blk_frozen BK103.out 3
                have hfz35_4 := blk_frozen BK103.out 4
                have hfz35_5 := blk_frozen BK103.out 5
                go_wp2
                go_loopg [46] kj21 (fun kq v46 w' => ∃ (x46_3 : Int), v46 = .int .i64 x46_3 ∧ Aside0 (zonemap_May.l0 kq l1_5 (l1_5.length : Int) x46_3 a0_0 a0_1 a0_2 a0_3 a0_4 a0_5 a0_6 a0_7 a0_8 a0_9 a0_10 a0_11 a0_12 = some r) ∧ Aside0 (kq ≤ kj21) ∧ Aside0 (w'.heap[gb102]? = some (.cells #[.int .i64 a0_0, .int .i64 a0_1, .int .i64 a0_2, .int .i64 a0_3, .int .i64 a0_4, .int .u32 a0_5, .int .u32 a0_6, .int .u32 a0_7, .int .u32 a0_8, .int .u32 a0_9, .int .u32 a0_10, .int .u32 a0_11, .int .u32 a0_12] 25 (0, 0))) ∧ Aside0 (w'.heap[gb103]? = some (.cells #[.int .i64 a1_0, .int .i64 a1_1, .bool a1_2, .int .i64 a1_3, .int .i64 a1_4, (.slice A1_5 l1_5.length c1_5)] 35 (0, 0))) ∧ Aside0 (Below w.heap.size w w'))
                case atStart => exact ⟨(0), (by first | rfl | (simp; done) | (simp [*]; done)), H', ⟨Nat.le_refl _⟩, ⟨by (with_reducible repeat (first | refine blk_drewN ?_ _ | refine blk_drew ?_ | refine blk_alloc ?_ _)); exact BK102.out⟩, ⟨by (with_reducible repeat (first | refine blk_drewN ?_ _ | refine blk_drew ?_ | refine blk_alloc ?_ _)); exact BK103.out⟩, ⟨by repeat (first | (with_reducible first | exact HB.out | apply below_alloc | apply pw_below_drewN | apply below_drew1 | refine below_set ?_ GE102.out | refine below_set ?_ GE103.out) | exact HB.out)⟩⟩
                case round =>
                  clear H'
                  try clear c1
                  try clear c2
                  try clear p2
                  try clear c3
                  try clear c4
                  try clear c4b0
                  try clear c4b1
                  try clear c8
                  try clear c11
                  try clear c11b0
                  try clear c11b1
                  try clear c12
                  try clear c13
                  try clear c14
                  try clear c14b0
                  try clear c15
                  try clear c18
                  try clear c21
                  try clear c23
                  try clear c24
                  try clear c24b0
                  try clear c24b1
                  try clear c25
                  try clear c28
                  try clear c31
                  try clear c33
                  try clear c34
                  try clear hcz13_0
                  try clear hcz13_1
                  try clear hcz13_10
                  try clear hcz13_11
                  try clear hcz13_12
                  try clear hcz13_2
                  try clear hcz13_3
                  try clear hcz13_4
                  try clear hcz13_5
                  try clear hcz13_6
                  try clear hcz13_7
                  try clear hcz13_8
                  try clear hcz13_9
                  try clear hcz16_0
                  try clear hcz16_1
                  try clear hcz16_10
                  try clear hcz16_11
                  try clear hcz16_12
                  try clear hcz16_2
                  try clear hcz16_3
                  try clear hcz16_4
                  try clear hcz16_5
                  try clear hcz16_6
                  try clear hcz16_7
                  try clear hcz16_8
                  try clear hcz16_9
                  try clear hcz17_0
                  try clear hcz17_1
                  try clear hcz17_2
                  try clear hcz17_3
                  try clear hcz17_4
                  try clear hcz17_5
                  try clear hcz19_0
                  try clear hcz19_1
                  try clear hcz19_10
                  try clear hcz19_11
                  try clear hcz19_12
                  try clear hcz19_2
                  try clear hcz19_3
                  try clear hcz19_4
                  try clear hcz19_5
                  try clear hcz19_6
                  try clear hcz19_7
                  try clear hcz19_8
                  try clear hcz19_9
                  try clear hcz20_0
                  try clear hcz20_1
                  try clear hcz20_2
                  try clear hcz20_3
                  try clear hcz20_4
                  try clear hcz20_5
                  try clear hcz26_0
                  try clear hcz26_1
                  try clear hcz26_2
                  try clear hcz26_3
                  try clear hcz26_4
                  try clear hcz26_5
                  try clear hcz27_0
                  try clear hcz27_1
                  try clear hcz27_10
                  try clear hcz27_11
                  try clear hcz27_12
                  try clear hcz27_2
                  try clear hcz27_3
                  try clear hcz27_4
                  try clear hcz27_5
                  try clear hcz27_6
                  try clear hcz27_7
                  try clear hcz27_8
                  try clear hcz27_9
                  try clear hcz29_0
                  try clear hcz29_1
                  try clear hcz29_2
                  try clear hcz29_3
                  try clear hcz29_4
                  try clear hcz29_5
                  try clear hcz30_0
                  try clear hcz30_1
                  try clear hcz30_10
                  try clear hcz30_11
                  try clear hcz30_12
                  try clear hcz30_2
                  try clear hcz30_3
                  try clear hcz30_4
                  try clear hcz30_5
                  try clear hcz30_6
                  try clear hcz30_7
                  try clear hcz30_8
                  try clear hcz30_9
                  try clear hcz32_0
                  try clear hcz32_1
                  try clear hcz32_2
                  try clear hcz32_3
                  try clear hcz32_4
                  try clear hcz32_5
                  try clear hcz35_0
                  try clear hcz35_1
                  try clear hcz35_2
                  try clear hcz35_3
                  try clear hcz35_4
                  try clear hcz35_5
                  try clear hcz9_0
                  try clear hcz9_1
                  try clear hcz9_10
                  try clear hcz9_11
                  try clear hcz9_12
                  try clear hcz9_2
                  try clear hcz9_3
                  try clear hcz9_4
                  try clear hcz9_5
                  try clear hcz9_6
                  try clear hcz9_7
                  try clear hcz9_8
                  try clear hcz9_9
                  try clear hfz13_0
                  try clear hfz13_1
                  try clear hfz13_10
                  try clear hfz13_11
                  try clear hfz13_12
                  try clear hfz13_2
                  try clear hfz13_3
                  try clear hfz13_4
                  try clear hfz13_5
                  try clear hfz13_6
                  try clear hfz13_7
                  try clear hfz13_8
                  try clear hfz13_9
                  try clear hfz16_0
                  try clear hfz16_1
                  try clear hfz16_10
                  try clear hfz16_11
                  try clear hfz16_12
                  try clear hfz16_2
                  try clear hfz16_3
                  try clear hfz16_4
                  try clear hfz16_5
                  try clear hfz16_6
                  try clear hfz16_7
                  try clear hfz16_8
                  try clear hfz16_9
                  try clear hfz17_0
                  try clear hfz17_1
                  try clear hfz17_2
                  try clear hfz17_3
                  try clear hfz17_4
                  try clear hfz17_5
                  try clear hfz19_0
                  try clear hfz19_1
                  try clear hfz19_10
                  try clear hfz19_11
                  try clear hfz19_12
                  try clear hfz19_2
                  try clear hfz19_3
                  try clear hfz19_4
                  try clear hfz19_5
                  try clear hfz19_6
                  try clear hfz19_7
                  try clear hfz19_8
                  try clear hfz19_9
                  try clear hfz20_0
                  try clear hfz20_1
                  try clear hfz20_2
                  try clear hfz20_3
                  try clear hfz20_4
                  try clear hfz20_5
                  try clear hfz26_0
                  try clear hfz26_1
                  try clear hfz26_2
                  try clear hfz26_3
                  try clear hfz26_4
                  try clear hfz26_5
                  try clear hfz27_0
                  try clear hfz27_1
                  try clear hfz27_10
                  try clear hfz27_11
                  try clear hfz27_12
                  try clear hfz27_2
                  try clear hfz27_3
                  try clear hfz27_4
                  try clear hfz27_5
                  try clear hfz27_6
                  try clear hfz27_7
                  try clear hfz27_8
                  try clear hfz27_9
                  try clear hfz29_0
                  try clear hfz29_1
                  try clear hfz29_2
                  try clear hfz29_3
                  try clear hfz29_4
                  try clear hfz29_5
                  try clear hfz30_0
                  try clear hfz30_1
                  try clear hfz30_10
                  try clear hfz30_11
                  try clear hfz30_12
                  try clear hfz30_2
                  try clear hfz30_3
                  try clear hfz30_4
                  try clear hfz30_5
                  try clear hfz30_6
                  try clear hfz30_7
                  try clear hfz30_8
                  try clear hfz30_9
                  try clear hfz32_0
                  try clear hfz32_1
                  try clear hfz32_2
                  try clear hfz32_3
                  try clear hfz32_4
                  try clear hfz32_5
                  try clear hfz35_0
                  try clear hfz35_1
                  try clear hfz35_2
                  try clear hfz35_3
                  try clear hfz35_4
                  try clear hfz35_5
                  try clear hfz9_0
                  try clear hfz9_1
                  try clear hfz9_10
                  try clear hfz9_11
                  try clear hfz9_12
                  try clear hfz9_2
                  try clear hfz9_3
                  try clear hfz9_4
                  try clear hfz9_5
                  try clear hfz9_6
                  try clear hfz9_7
                  try clear hfz9_8
                  try clear hfz9_9
                  try clear p2
                  obtain ⟨x46_3, rfl, HA, HK3, BK102, BK103, HB⟩ := hrel
                  cases gk with
                  | zero => exact absurd HA.out (by simp [zonemap_May.l0])
                  | succ k3 =>
                    have H := HA.out
                    clear HA
                    simp only [zonemap_May.l0] at H
                    by_cases c36 : x46_3 < (l1_5.length : Int)
                    · rw [if_pos c36] at H
                      have c36b0 : decide (x46_3 < (l1_5.length : Int)) = true := decide_eq_true c36
                      clear c36
                      by_cases c37 : 0 ≤ x46_3
                      · rw [if_pos c37] at H
                        have c37b0 : decide (0 ≤ x46_3) = true := decide_eq_true c37
                        clear c37
                        by_cases c38 : x46_3 < (l1_5.length : Int)
                        · rw [if_pos c38] at H
                          have c38b0 : decide (x46_3 < (l1_5.length : Int)) = true := decide_eq_true c38
                          clear c38
                          replace H := Option.bind_eq_some_iff.mp H
                          obtain ⟨t106, A390, H⟩ := H
                          replace H : (if t106 = true then (zonemap_May.l0 k3 l1_5 (l1_5.length : Int) (wrap64 (x46_3 + 1)) a0_0 a0_1 a0_2 a0_3 a0_4 a0_5 a0_6 a0_7 a0_8 a0_9 a0_10 a0_11 a0_12) else (some false)) = some r := H
                          have A39 := Aside0.mk A390
                          clear A390
                          by_cases c40 : t106 = true
                          · subst c40
                            have H1 : (zonemap_May.l0 k3 l1_5 (l1_5.length : Int) (wrap64 (x46_3 + 1)) a0_0 a0_1 a0_2 a0_3 a0_4 a0_5 a0_6 a0_7 a0_8 a0_9 a0_10 a0_11 a0_12) = some r := by rw [if_pos rfl] at H; exact H
                            clear H
                            have H := H1
                            clear H1
                            have H' := Aside0.mk H
                            clear H
                            have p105 : 0 ≤ (x46_3 : Int) := of_decide_eq_true (by first | (with_reducible assumption) | assumption)
                            have q105 : x46_3 < (l1_5.length : Int) := of_decide_eq_true (by first | (with_reducible assumption) | assumption)
                            obtain ⟨ad105, e105, hx105_0⟩ := Kd.at_string HR1_5.out x46_3 p105 q105
                            cases e105
                            replace hx105_0 := (HB.out.cell (World.block_lt_of_cell? w _ hx105_0)).trans hx105_0
                            replace p105 := eq_true p105
                            replace q105 := eq_true q105
                            have hnb41 := NB102_103.out
                            have hnc41 := NB103_102.out
                            have hcz42_0 : wr.cell? ⟨gb102, 0, none⟩ = some (.int .i64 a0_0) := (blk_cell BK102.out 0).trans rfl
                            have hcz42_1 : wr.cell? ⟨gb102, 1, none⟩ = some (.int .i64 a0_1) := (blk_cell BK102.out 1).trans rfl
                            have hcz42_2 : wr.cell? ⟨gb102, 2, none⟩ = some (.int .i64 a0_2) := (blk_cell BK102.out 2).trans rfl
                            have hcz42_3 : wr.cell? ⟨gb102, 3, none⟩ = some (.int .i64 a0_3) := (blk_cell BK102.out 3).trans rfl
                            have hcz42_4 : wr.cell? ⟨gb102, 4, none⟩ = some (.int .i64 a0_4) := (blk_cell BK102.out 4).trans rfl
                            have hcz42_5 : wr.cell? ⟨gb102, 5, none⟩ = some (.int .u32 a0_5) := (blk_cell BK102.out 5).trans rfl
                            have hcz42_6 : wr.cell? ⟨gb102, 6, none⟩ = some (.int .u32 a0_6) := (blk_cell BK102.out 6).trans rfl
                            have hcz42_7 : wr.cell? ⟨gb102, 7, none⟩ = some (.int .u32 a0_7) := (blk_cell BK102.out 7).trans rfl
                            have hcz42_8 : wr.cell? ⟨gb102, 8, none⟩ = some (.int .u32 a0_8) := (blk_cell BK102.out 8).trans rfl
                            have hcz42_9 : wr.cell? ⟨gb102, 9, none⟩ = some (.int .u32 a0_9) := (blk_cell BK102.out 9).trans rfl
                            have hcz42_10 : wr.cell? ⟨gb102, 10, none⟩ = some (.int .u32 a0_10) := (blk_cell BK102.out 10).trans rfl
                            have hcz42_11 : wr.cell? ⟨gb102, 11, none⟩ = some (.int .u32 a0_11) := (blk_cell BK102.out 11).trans rfl
                            have hcz42_12 : wr.cell? ⟨gb102, 12, none⟩ = some (.int .u32 a0_12) := (blk_cell BK102.out 12).trans rfl
                            have hfz42_0 := blk_frozen BK102.out 0
                            have hfz42_1 := blk_frozen BK102.out 1
                            have hfz42_2 := blk_frozen BK102.out 2
                            have hfz42_3 := blk_frozen BK102.out 3
                            have hfz42_4 := blk_frozen BK102.out 4
                            have hfz42_5 := blk_frozen BK102.out 5
                            have hfz42_6 := blk_frozen BK102.out 6
                            have hfz42_7 := blk_frozen BK102.out 7
                            have hfz42_8 := blk_frozen BK102.out 8
                            have hfz42_9 := blk_frozen BK102.out 9
                            have hfz42_10 := blk_frozen BK102.out 10
                            have hfz42_11 := blk_frozen BK102.out 11
                            have hfz42_12 := blk_frozen BK102.out 12
                            go_wp2_with (first | ((with_reducible refine gate_callee (f := 17) rfl ?_); refine goesL_ (some 52) rfl rfl Try.func17 (by kernel_rfl) rfl #[.agg #[.int .i64 a0_0, .int .i64 a0_1, .int .i64 a0_2, .int .i64 a0_3, .int .i64 a0_4, .int .u32 a0_5, .int .u32 a0_6, .int .u32 a0_7, .int .u32 a0_8, .int .u32 a0_9, .int .u32 a0_10, .int .u32 a0_11, .int .u32 a0_12], .string (rdOf ByteArray.empty l1_5 x46_3)] rfl (by (try simp only [List.map_toArray, List.map_cons, List.map_nil]); first | done | rfl | (simp only [List.length_drop, List.length_take]; rfl)) ?_; (with_reducible refine (zonemap_Has.calls a0_0 a0_1 a0_2 a0_3 a0_4 a0_5 a0_6 a0_7 a0_8 a0_9 a0_10 a0_11 a0_12 (rdOf ByteArray.empty l1_5 x46_3) true _ A39.out).mono ?_); rintro e w43 ⟨rfl, hb⟩; refine ⟨_, rfl, ?_⟩; have n0_ := Aside0.mk (blk_below (g := gb102) (o := .cells #[.int .i64 a0_0, .int .i64 a0_1, .int .i64 a0_2, .int .i64 a0_3, .int .i64 a0_4, .int .u32 a0_5, .int .u32 a0_6, .int .u32 a0_7, .int .u32 a0_8, .int .u32 a0_9, .int .u32 a0_10, .int .u32 a0_11, .int .u32 a0_12] 25 (0, 0)) (by (with_reducible repeat (first | refine blk_drewN ?_ _ | refine blk_drew ?_ | refine blk_alloc ?_ _)); exact BK102.out) hb); have n1_ := Aside0.mk (blk_below (g := gb103) (o := .cells #[.int .i64 a1_0, .int .i64 a1_1, .bool a1_2, .int .i64 a1_3, .int .i64 a1_4, .slice (some ad105) l1_5.length c1_5] 35 (0, 0)) (by (with_reducible repeat (first | refine blk_drewN ?_ _ | refine blk_drew ?_ | refine blk_alloc ?_ _)); exact BK103.out) hb); have n2_ := Aside0.mk (below_step (by repeat (first | (with_reducible first | exact HB.out | apply below_alloc | apply pw_below_drewN | apply below_drew1 | refine below_set ?_ GE102.out | refine below_set ?_ GE103.out) | exact HB.out)) hb); clear BK102; clear BK103; clear HB; have BK102 := n0_; have BK103 := n1_; have HB := n2_; clear n0_ n1_ n2_; (try clear hb); (try clear hb2); (try clear hk); (try clear hi)))
                            go_roundg k3
                            case measure => have := HJ4.out; have := HJ21.out; have := HK3.out; omega
                            case rel => exact ⟨(wrap64 (x46_3 + 1)), (by first | rfl | (simp; done) | (simp [*]; done)), H', ⟨by have := HJ4.out; have := HJ21.out; have := HK3.out; omega⟩, ⟨by (with_reducible repeat (first | refine blk_drewN ?_ _ | refine blk_drew ?_ | refine blk_alloc ?_ _)); exact BK102.out⟩, ⟨by (with_reducible repeat (first | refine blk_drewN ?_ _ | refine blk_drew ?_ | refine blk_alloc ?_ _)); exact BK103.out⟩, ⟨by repeat (first | (with_reducible first | exact HB.out | apply below_alloc | apply pw_below_drewN | apply below_drew1 | refine below_set ?_ GE102.out | refine below_set ?_ GE103.out) | exact HB.out)⟩⟩
                          · replace c40 := Bool.eq_false_iff.mpr c40
                            subst c40
                            have H1 : (some false) = some r := by rw [if_neg (show ¬ (false = true) by decide)] at H; exact H
                            clear H
                            have H := H1
                            clear H1
                            obtain rfl := Option.some.inj H
                            have p105 : 0 ≤ (x46_3 : Int) := of_decide_eq_true (by first | (with_reducible assumption) | assumption)
                            have q105 : x46_3 < (l1_5.length : Int) := of_decide_eq_true (by first | (with_reducible assumption) | assumption)
                            obtain ⟨ad105, e105, hx105_0⟩ := Kd.at_string HR1_5.out x46_3 p105 q105
                            cases e105
                            replace hx105_0 := (HB.out.cell (World.block_lt_of_cell? w _ hx105_0)).trans hx105_0
                            replace p105 := eq_true p105
                            replace q105 := eq_true q105
                            have hnb44 := NB102_103.out
                            have hnc44 := NB103_102.out
                            have hcz45_0 : wr.cell? ⟨gb102, 0, none⟩ = some (.int .i64 a0_0) := (blk_cell BK102.out 0).trans rfl
                            have hcz45_1 : wr.cell? ⟨gb102, 1, none⟩ = some (.int .i64 a0_1) := (blk_cell BK102.out 1).trans rfl
                            have hcz45_2 : wr.cell? ⟨gb102, 2, none⟩ = some (.int .i64 a0_2) := (blk_cell BK102.out 2).trans rfl
                            have hcz45_3 : wr.cell? ⟨gb102, 3, none⟩ = some (.int .i64 a0_3) := (blk_cell BK102.out 3).trans rfl
                            have hcz45_4 : wr.cell? ⟨gb102, 4, none⟩ = some (.int .i64 a0_4) := (blk_cell BK102.out 4).trans rfl
                            have hcz45_5 : wr.cell? ⟨gb102, 5, none⟩ = some (.int .u32 a0_5) := (blk_cell BK102.out 5).trans rfl
                            have hcz45_6 : wr.cell? ⟨gb102, 6, none⟩ = some (.int .u32 a0_6) := (blk_cell BK102.out 6).trans rfl
                            have hcz45_7 : wr.cell? ⟨gb102, 7, none⟩ = some (.int .u32 a0_7) := (blk_cell BK102.out 7).trans rfl
                            have hcz45_8 : wr.cell? ⟨gb102, 8, none⟩ = some (.int .u32 a0_8) := (blk_cell BK102.out 8).trans rfl
                            have hcz45_9 : wr.cell? ⟨gb102, 9, none⟩ = some (.int .u32 a0_9) := (blk_cell BK102.out 9).trans rfl
                            have hcz45_10 : wr.cell? ⟨gb102, 10, none⟩ = some (.int .u32 a0_10) := (blk_cell BK102.out 10).trans rfl
                            have hcz45_11 : wr.cell? ⟨gb102, 11, none⟩ = some (.int .u32 a0_11) := (blk_cell BK102.out 11).trans rfl
                            have hcz45_12 : wr.cell? ⟨gb102, 12, none⟩ = some (.int .u32 a0_12) := (blk_cell BK102.out 12).trans rfl
                            have hfz45_0 := blk_frozen BK102.out 0
                            have hfz45_1 := blk_frozen BK102.out 1
                            have hfz45_2 := blk_frozen BK102.out 2
                            have hfz45_3 := blk_frozen BK102.out 3
                            have hfz45_4 := blk_frozen BK102.out 4
                            have hfz45_5 := blk_frozen BK102.out 5
                            have hfz45_6 := blk_frozen BK102.out 6
                            have hfz45_7 := blk_frozen BK102.out 7
                            have hfz45_8 := blk_frozen BK102.out 8
                            have hfz45_9 := blk_frozen BK102.out 9
                            have hfz45_10 := blk_frozen BK102.out 10
                            have hfz45_11 := blk_frozen BK102.out 11
                            have hfz45_12 := blk_frozen BK102.out 12
                            go_wp2_with (first | ((with_reducible refine gate_callee (f := 17) rfl ?_); refine goesL_ (some 52) rfl rfl Try.func17 (by kernel_rfl) rfl #[.agg #[.int .i64 a0_0, .int .i64 a0_1, .int .i64 a0_2, .int .i64 a0_3, .int .i64 a0_4, .int .u32 a0_5, .int .u32 a0_6, .int .u32 a0_7, .int .u32 a0_8, .int .u32 a0_9, .int .u32 a0_10, .int .u32 a0_11, .int .u32 a0_12], .string (rdOf ByteArray.empty l1_5 x46_3)] rfl (by (try simp only [List.map_toArray, List.map_cons, List.map_nil]); first | done | rfl | (simp only [List.length_drop, List.length_take]; rfl)) ?_; (with_reducible refine (zonemap_Has.calls a0_0 a0_1 a0_2 a0_3 a0_4 a0_5 a0_6 a0_7 a0_8 a0_9 a0_10 a0_11 a0_12 (rdOf ByteArray.empty l1_5 x46_3) false _ A39.out).mono ?_); rintro e w46 ⟨rfl, hb⟩; refine ⟨_, rfl, ?_⟩; have n0_ := Aside0.mk (blk_below (g := gb102) (o := .cells #[.int .i64 a0_0, .int .i64 a0_1, .int .i64 a0_2, .int .i64 a0_3, .int .i64 a0_4, .int .u32 a0_5, .int .u32 a0_6, .int .u32 a0_7, .int .u32 a0_8, .int .u32 a0_9, .int .u32 a0_10, .int .u32 a0_11, .int .u32 a0_12] 25 (0, 0)) (by (with_reducible repeat (first | refine blk_drewN ?_ _ | refine blk_drew ?_ | refine blk_alloc ?_ _)); exact BK102.out) hb); have n1_ := Aside0.mk (blk_below (g := gb103) (o := .cells #[.int .i64 a1_0, .int .i64 a1_1, .bool a1_2, .int .i64 a1_3, .int .i64 a1_4, .slice (some ad105) l1_5.length c1_5] 35 (0, 0)) (by (with_reducible repeat (first | refine blk_drewN ?_ _ | refine blk_drew ?_ | refine blk_alloc ?_ _)); exact BK103.out) hb); have n2_ := Aside0.mk (below_step (by repeat (first | (with_reducible first | exact HB.out | apply below_alloc | apply pw_below_drewN | apply below_drew1 | refine below_set ?_ GE102.out | refine below_set ?_ GE103.out) | exact HB.out)) hb); clear BK102; clear BK103; clear HB; have BK102 := n0_; have BK103 := n1_; have HB := n2_; clear n0_ n1_ n2_; (try clear hb); (try clear hb2); (try clear hk); (try clear hi)))
                            go_ret
                            exact ⟨by first | rfl | (simp [errW_none, errW_some] <;> rfl) | (simp [*, errW_none, errW_some] <;> rfl), by repeat (first | (with_reducible first | exact HB.out | apply below_alloc | apply pw_below_drewN | apply below_drew1 | refine below_set ?_ GE102.out | refine below_set ?_ GE103.out) | exact HB.out)⟩
                        · rw [if_neg c38] at H
                          exact absurd H (by simp)
                      · rw [if_neg c37] at H
                        exact absurd H (by simp)
                    · rw [if_neg c36] at H
                      have c36b0 : decide (x46_3 < (l1_5.length : Int)) = false := decide_eq_false c36
                      clear c36
                      obtain rfl := Option.some.inj H
                      go_wp2
                      go_ret
                      exact ⟨by first | rfl | (simp [errW_none, errW_some] <;> rfl) | (simp [*, errW_none, errW_some] <;> rfl), by repeat (first | (with_reducible first | exact HB.out | apply below_alloc | apply pw_below_drewN | apply below_drew1 | refine below_set ?_ GE102.out | refine below_set ?_ GE103.out) | exact HB.out)⟩
  · rw [if_neg c4] at H
    have c4b0 : (t104 == 0) = false := beq_eq_false_iff_ne.mpr c4
    have c4b1 : (t104 != 0) = true := bne_iff_ne.mpr c4
    obtain rfl := Option.some.inj H
    go_enter Try.func21, Try.ntmps21
    go_wp2_with (first | ((with_reducible refine gate_dst (N := 2) rfl ?_); refine box_event ?hg (N := 2) ?hd (cs := #[.int .i64 a0_0, .int .i64 a0_1, .int .i64 a0_2, .int .i64 a0_3, .int .i64 a0_4, .int .u32 a0_5, .int .u32 a0_6, .int .u32 a0_7, .int .u32 a0_8, .int .u32 a0_9, .int .u32 a0_10, .int .u32 a0_11, .int .u32 a0_12]) (t := 25) ?hr ?_; (case hd => rfl); (case hg => rfl); (case hr => first | (go_simp; done) | (go_simp; rfl)); intro gb102 hg w47 hbox hb; have n0_ := Aside0.mk (below_step (by repeat (first | (with_reducible first | exact HB.out | apply below_alloc | apply pw_below_drewN | apply below_drew1) | exact HB.out)) hb); have n1_ := Aside0.mk (hbox); have n2_ := Aside0.mk ((by rw [hg]; exact (below_size (by repeat (first | (with_reducible first | exact HB.out | apply below_alloc | apply pw_below_drewN | apply below_drew1) | exact HB.out))) : w.heap.size ≤ gb102)); have n3_ := Aside0.mk ((by rw [hg]; exact (below_size (by repeat (first | (with_reducible first | exact HB.out | apply below_alloc | apply pw_below_drewN | apply below_drew1) | exact HB.out))) : w.heap.size ≤ gb102)); clear HB; have HB := n0_; have BK102 := n1_; have GW102 := n2_; have GE102 := n3_; clear n0_ n1_ n2_ n3_; clear hb hbox hg) | ((with_reducible refine gate_dst (N := 3) rfl ?_); refine box_event ?hg (N := 3) ?hd (cs := #[.int .i64 a1_0, .int .i64 a1_1, .bool a1_2, .int .i64 a1_3, .int .i64 a1_4, .slice A1_5 l1_5.length c1_5]) (t := 35) ?hr ?_; (case hd => rfl); (case hg => rfl); (case hr => first | (go_simp; done) | (go_simp; rfl)); intro gb103 hg w48 hbox hb; have n0_ := Aside0.mk (blk_below (g := gb102) (o := .cells #[.int .i64 a0_0, .int .i64 a0_1, .int .i64 a0_2, .int .i64 a0_3, .int .i64 a0_4, .int .u32 a0_5, .int .u32 a0_6, .int .u32 a0_7, .int .u32 a0_8, .int .u32 a0_9, .int .u32 a0_10, .int .u32 a0_11, .int .u32 a0_12] 25 (0, 0)) (by (with_reducible repeat (first | refine blk_drewN ?_ _ | refine blk_drew ?_ | refine blk_alloc ?_ _)); exact BK102.out) hb); have n1_ := Aside0.mk (below_step (by repeat (first | (with_reducible first | exact HB.out | apply below_alloc | apply pw_below_drewN | apply below_drew1 | refine below_set ?_ GE102.out) | exact HB.out)) hb); have n2_ := Aside0.mk (hbox); have n3_ := Aside0.mk ((by rw [hg]; exact (below_size (by repeat (first | (with_reducible first | exact HB.out | apply below_alloc | apply pw_below_drewN | apply below_drew1 | refine below_set ?_ GE102.out) | exact HB.out))) : w.heap.size ≤ gb103)); have n4_ := Aside0.mk ((by rw [hg]; exact (below_size (by repeat (first | (with_reducible first | exact HB.out | apply below_alloc | apply pw_below_drewN | apply below_drew1 | refine below_set ?_ GE102.out) | exact HB.out))) : w.heap.size ≤ gb103)); have n5_ := Aside0.mk ((by rw [hg]; exact Nat.ne_of_lt (blk_lt (g := gb102) (o := .cells #[.int .i64 a0_0, .int .i64 a0_1, .int .i64 a0_2, .int .i64 a0_3, .int .i64 a0_4, .int .u32 a0_5, .int .u32 a0_6, .int .u32 a0_7, .int .u32 a0_8, .int .u32 a0_9, .int .u32 a0_10, .int .u32 a0_11, .int .u32 a0_12] 25 (0, 0)) (by (with_reducible repeat (first | refine blk_drewN ?_ _ | refine blk_drew ?_ | refine blk_alloc ?_ _)); exact BK102.out)) : gb102 ≠ gb103)); have n6_ := Aside0.mk ((by rw [hg]; exact Nat.ne_of_gt (blk_lt (g := gb102) (o := .cells #[.int .i64 a0_0, .int .i64 a0_1, .int .i64 a0_2, .int .i64 a0_3, .int .i64 a0_4, .int .u32 a0_5, .int .u32 a0_6, .int .u32 a0_7, .int .u32 a0_8, .int .u32 a0_9, .int .u32 a0_10, .int .u32 a0_11, .int .u32 a0_12] 25 (0, 0)) (by (with_reducible repeat (first | refine blk_drewN ?_ _ | refine blk_drew ?_ | refine blk_alloc ?_ _)); exact BK102.out)) : gb103 ≠ gb102)); clear BK102; clear HB; have BK102 := n0_; have HB := n1_; have BK103 := n2_; have GW103 := n3_; have GE103 := n4_; have NB102_103 := n5_; have NB103_102 := n6_; clear n0_ n1_ n2_ n3_ n4_ n5_ n6_; clear hb hbox hg; have hnb49 := NB102_103.out; have hnc49 := NB103_102.out; have hcz50_0 : w48.cell? ⟨gb102, 0, none⟩ = some (.int .i64 a0_0) := (blk_cell BK102.out 0).trans rfl; have hcz50_1 : w48.cell? ⟨gb102, 1, none⟩ = some (.int .i64 a0_1) := (blk_cell BK102.out 1).trans rfl; have hcz50_2 : w48.cell? ⟨gb102, 2, none⟩ = some (.int .i64 a0_2) := (blk_cell BK102.out 2).trans rfl; have hcz50_3 : w48.cell? ⟨gb102, 3, none⟩ = some (.int .i64 a0_3) := (blk_cell BK102.out 3).trans rfl; have hcz50_4 : w48.cell? ⟨gb102, 4, none⟩ = some (.int .i64 a0_4) := (blk_cell BK102.out 4).trans rfl; have hcz50_5 : w48.cell? ⟨gb102, 5, none⟩ = some (.int .u32 a0_5) := (blk_cell BK102.out 5).trans rfl; have hcz50_6 : w48.cell? ⟨gb102, 6, none⟩ = some (.int .u32 a0_6) := (blk_cell BK102.out 6).trans rfl; have hcz50_7 : w48.cell? ⟨gb102, 7, none⟩ = some (.int .u32 a0_7) := (blk_cell BK102.out 7).trans rfl; have hcz50_8 : w48.cell? ⟨gb102, 8, none⟩ = some (.int .u32 a0_8) := (blk_cell BK102.out 8).trans rfl; have hcz50_9 : w48.cell? ⟨gb102, 9, none⟩ = some (.int .u32 a0_9) := (blk_cell BK102.out 9).trans rfl; have hcz50_10 : w48.cell? ⟨gb102, 10, none⟩ = some (.int .u32 a0_10) := (blk_cell BK102.out 10).trans rfl; have hcz50_11 : w48.cell? ⟨gb102, 11, none⟩ = some (.int .u32 a0_11) := (blk_cell BK102.out 11).trans rfl; have hcz50_12 : w48.cell? ⟨gb102, 12, none⟩ = some (.int .u32 a0_12) := (blk_cell BK102.out 12).trans rfl; have hfz50_0 := blk_frozen BK102.out 0; have hfz50_1 := blk_frozen BK102.out 1; have hfz50_2 := blk_frozen BK102.out 2; have hfz50_3 := blk_frozen BK102.out 3; have hfz50_4 := blk_frozen BK102.out 4; have hfz50_5 := blk_frozen BK102.out 5; have hfz50_6 := blk_frozen BK102.out 6; have hfz50_7 := blk_frozen BK102.out 7; have hfz50_8 := blk_frozen BK102.out 8; have hfz50_9 := blk_frozen BK102.out 9; have hfz50_10 := blk_frozen BK102.out 10; have hfz50_11 := blk_frozen BK102.out 11; have hfz50_12 := blk_frozen BK102.out 12) | ((with_reducible refine gate_callee (f := 13) rfl ?_); refine goesL_ (some 8) rfl rfl Try.func13 (by kernel_rfl) rfl #[.agg #[.int .i64 a0_0, .int .i64 a0_1, .int .i64 a0_2, .int .i64 a0_3, .int .i64 a0_4, .int .u32 a0_5, .int .u32 a0_6, .int .u32 a0_7, .int .u32 a0_8, .int .u32 a0_9, .int .u32 a0_10, .int .u32 a0_11, .int .u32 a0_12]] rfl (by (try simp only [List.map_toArray, List.map_cons, List.map_nil]); first | done | rfl | (simp only [List.length_drop, List.length_take]; rfl)) ?_; (with_reducible refine (zcheck.calls a0_0 a0_1 a0_2 a0_3 a0_4 a0_5 a0_6 a0_7 a0_8 a0_9 a0_10 a0_11 a0_12 t104 _ A3.out).mono ?_); rintro e w51 ⟨rfl, hb⟩; refine ⟨_, rfl, ?_⟩; have n0_ := Aside0.mk (blk_below (g := gb102) (o := .cells #[.int .i64 a0_0, .int .i64 a0_1, .int .i64 a0_2, .int .i64 a0_3, .int .i64 a0_4, .int .u32 a0_5, .int .u32 a0_6, .int .u32 a0_7, .int .u32 a0_8, .int .u32 a0_9, .int .u32 a0_10, .int .u32 a0_11, .int .u32 a0_12] 25 (0, 0)) (by (with_reducible repeat (first | refine blk_drewN ?_ _ | refine blk_drew ?_ | refine blk_alloc ?_ _)); exact BK102.out) hb); have n1_ := Aside0.mk (blk_below (g := gb103) (o := .cells #[.int .i64 a1_0, .int .i64 a1_1, .bool a1_2, .int .i64 a1_3, .int .i64 a1_4, .slice A1_5 l1_5.length c1_5] 35 (0, 0)) (by (with_reducible repeat (first | refine blk_drewN ?_ _ | refine blk_drew ?_ | refine blk_alloc ?_ _)); exact BK103.out) hb); have n2_ := Aside0.mk (below_step (by repeat (first | (with_reducible first | exact HB.out | apply below_alloc | apply pw_below_drewN | apply below_drew1 | refine below_set ?_ GE102.out | refine below_set ?_ GE103.out) | exact HB.out)) hb); clear BK102; clear BK103; clear HB; have BK102 := n0_; have BK103 := n1_; have HB := n2_; clear n0_ n1_ n2_; (try clear hb); (try clear hb2); (try clear hk); (try clear hi)))
    go_ret
    exact ⟨by first | rfl | (simp [errW_none, errW_some] <;> rfl) | (simp [*, errW_none, errW_some] <;> rfl), by repeat (first | (with_reducible first | exact HB.out | apply below_alloc | apply pw_below_drewN | apply below_drew1 | refine below_set ?_ GE102.out | refine below_set ?_ GE103.out) | exact HB.out)⟩

end Go.Proofs.Ytdokabaeddaipaa.P
