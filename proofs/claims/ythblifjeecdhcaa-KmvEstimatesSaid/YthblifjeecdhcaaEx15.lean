/- Printed by a program of this session: functions of the law's Go code as Lean functions, and that the Go code computes them. No condition beyond those in the statements. -/
import Derived.Test.YthblifjeecdhcaaEA
namespace Go.Proofs.Ythblifjeecdhcaa.E
open Go.RowKit Go.Proofs.YthblifjeecdhcaaW.PrintWords Go.Proofs.YthblifjeecdhcaaW.PrintLast Go.Proofs.YthblifjeecdhcaaW.PrintMore Go.Proofs.Ythblifjeecdhcaa.Hand Go.Proofs.Ythblifjeecdhcaa.A Go.Proofs.Ythblifjeecdhcaa.P Go.Proofs.Ythblifjeecdhcaa.B
attribute [local go_sem] max2_int min2_int max_two min_two max_three min_three max_four min_four   -- for this text's walks alone
set_option linter.unusedVariables false
set_option linter.unusedSimpArgs false

/-! ### lookoutref30_Decode: function 33 -/
mutual
def lookoutref30_Decode.l0 : Nat → List Int → ByteArray → Option (Int × Int × List Int × Int)
  | 0, _, _ => none
  | k + 1, x4, x5 => if x5.toList = ([] : List UInt8) then (if (x4.length : Int) < 3 then (lookoutref30_Decode.j1 k x4 true) else (if (x4.length : Int) > 1003 then (lookoutref30_Decode.j1 k x4 true) else (if 2 < (x4.length : Int) then (lookoutref30_Decode.j1 k x4 ((rd x4 2) != (wrap64 ((x4.length : Int) - 3)))) else (none)))) else ((lookoutref01_Read.f k x5).bind fun bt153 => (if bt153.2.2 = 0 then (if x4.length < 17592186044416 then (if 0 ≤ bt153.2.1 then (if bt153.2.1 ≤ (x5.size : Int) then (lookoutref30_Decode.l0 k (x4 ++ [bt153.1]) (x5.extract (bt153.2.1 : Int).toNat x5.size)) else (none)) else (none)) else (none)) else (some (0, 0, ([] : List Int), 12))))
def lookoutref30_Decode.j1 : Nat → List Int → Bool → Option (Int × Int × List Int × Int)
  | 0, _, _ => none
  | k + 1, x4, x48 => if x48 = true then (some (0, 0, ([] : List Int), 12)) else (if 0 < (x4.length : Int) then (if 1 < (x4.length : Int) then (lookoutref30_Decode.l1 k x4 0 3 (rd x4 0) (rd x4 1) ([] : List Int)) else (none)) else (none))
def lookoutref30_Decode.l1 : Nat → List Int → Int → Int → Int → Int → List Int → Option (Int × Int × List Int × Int)
  | 0, _, _, _, _, _, _ => none
  | k + 1, x4, x10, x11, x163000, x163001, x163002 => if x11 < (x4.length : Int) then (if 0 ≤ x11 then (if (rd x4 x11) ≥ 4294967296 then (some (0, 0, ([] : List Int), 12)) else (if x163002.length < 17592186044416 then (lookoutref30_Decode.l1 k x4 (wrap64 (x10 + (rd x4 x11))) (wrap64 (x11 + 1)) x163000 x163001 (x163002 ++ [wrap64 (x10 + (rd x4 x11))])) else (none))) else (none)) else ((lookoutref30_Check.f k x163000 x163001 x163002).bind fun t168 => (if t168 = 0 then (some (x163000, x163001, x163002, 0)) else (some (0, 0, ([] : List Int), 12))))
end
def lookoutref30_Decode.f (k : Nat) (a0 : ByteArray) : Option (Int × Int × List Int × Int) := lookoutref30_Decode.l0 k (([] : List Int)) a0
theorem lookoutref30_Decode.mono_l : ∀ k, (∀ y0 y1, LeO (lookoutref30_Decode.l0 k y0 y1) (lookoutref30_Decode.l0 (k + 1) y0 y1)) ∧ (∀ y0 y1, LeO (lookoutref30_Decode.j1 k y0 y1) (lookoutref30_Decode.j1 (k + 1) y0 y1)) ∧ (∀ y0 y1 y2 y3 y4 y5, LeO (lookoutref30_Decode.l1 k y0 y1 y2 y3 y4 y5) (lookoutref30_Decode.l1 (k + 1) y0 y1 y2 y3 y4 y5))
  | 0 => ⟨fun _ _ r h => by simp [lookoutref30_Decode.l0] at h, fun _ _ r h => by simp [lookoutref30_Decode.j1] at h, fun _ _ _ _ _ _ r h => by simp [lookoutref30_Decode.l1] at h⟩
  | k + 1 => by
    obtain ⟨ih0, ih1, ih2⟩ := lookoutref30_Decode.mono_l k
    refine ⟨?_, ?_, ?_⟩
    · intro y0 y1
      unfold lookoutref30_Decode.l0
      repeat' first
      | (with_reducible exact ih0 _ _)
      | (with_reducible exact ih1 _ _)
      | (with_reducible exact ih2 _ _ _ _ _ _)
      | (with_reducible exact lookoutref01_Read.mono _ _)
      | (with_reducible exact lookoutref30_Check.mono _ _ _ _)
      | (with_reducible exact LeO.refl _)
      | (with_reducible exact LeO.none _)
      | (with_reducible refine LeO.ite ?_ ?_)
      | (with_reducible refine LeO.bind ?_ (fun _ => ?_))
      | exact ih0 _ _
      | exact ih1 _ _
      | exact ih2 _ _ _ _ _ _
      | exact lookoutref01_Read.mono _ _
      | exact lookoutref30_Check.mono _ _ _ _
      | exact LeO.none _
      | refine LeO.ite ?_ ?_
      | refine LeO.bind ?_ (fun _ => ?_)
    · intro y0 y1
      unfold lookoutref30_Decode.j1
      repeat' first
      | (with_reducible exact ih0 _ _)
      | (with_reducible exact ih1 _ _)
      | (with_reducible exact ih2 _ _ _ _ _ _)
      | (with_reducible exact lookoutref01_Read.mono _ _)
      | (with_reducible exact lookoutref30_Check.mono _ _ _ _)
      | (with_reducible exact LeO.refl _)
      | (with_reducible exact LeO.none _)
      | (with_reducible refine LeO.ite ?_ ?_)
      | (with_reducible refine LeO.bind ?_ (fun _ => ?_))
      | exact ih0 _ _
      | exact ih1 _ _
      | exact ih2 _ _ _ _ _ _
      | exact lookoutref01_Read.mono _ _
      | exact lookoutref30_Check.mono _ _ _ _
      | exact LeO.none _
      | refine LeO.ite ?_ ?_
      | refine LeO.bind ?_ (fun _ => ?_)
    · intro y0 y1 y2 y3 y4 y5
      unfold lookoutref30_Decode.l1
      repeat' first
      | (with_reducible exact ih0 _ _)
      | (with_reducible exact ih1 _ _)
      | (with_reducible exact ih2 _ _ _ _ _ _)
      | (with_reducible exact lookoutref01_Read.mono _ _)
      | (with_reducible exact lookoutref30_Check.mono _ _ _ _)
      | (with_reducible exact LeO.refl _)
      | (with_reducible exact LeO.none _)
      | (with_reducible refine LeO.ite ?_ ?_)
      | (with_reducible refine LeO.bind ?_ (fun _ => ?_))
      | exact ih0 _ _
      | exact ih1 _ _
      | exact ih2 _ _ _ _ _ _
      | exact lookoutref01_Read.mono _ _
      | exact lookoutref30_Check.mono _ _ _ _
      | exact LeO.none _
      | refine LeO.ite ?_ ?_
      | refine LeO.bind ?_ (fun _ => ?_)
theorem lookoutref30_Decode.mono : ∀ a0 k, LeO (lookoutref30_Decode.f k a0) (lookoutref30_Decode.f (k + 1) a0) := by
  intro a0 k
  obtain ⟨ih0, ih1, ih2⟩ := lookoutref30_Decode.mono_l k
  unfold lookoutref30_Decode.f
  repeat' first
      | (with_reducible exact ih0 _ _)
      | (with_reducible exact ih1 _ _)
      | (with_reducible exact ih2 _ _ _ _ _ _)
      | (with_reducible exact lookoutref01_Read.mono _ _)
      | (with_reducible exact lookoutref30_Check.mono _ _ _ _)
      | (with_reducible exact LeO.refl _)
      | (with_reducible exact LeO.none _)
      | (with_reducible refine LeO.ite ?_ ?_)
      | (with_reducible refine LeO.bind ?_ (fun _ => ?_))
      | exact ih0 _ _
      | exact ih1 _ _
      | exact ih2 _ _ _ _ _ _
      | exact lookoutref01_Read.mono _ _
      | exact lookoutref30_Check.mono _ _ _ _
      | exact LeO.none _
      | refine LeO.ite ?_ ?_
      | refine LeO.bind ?_ (fun _ => ?_)
def lookoutref30_Decode.T11 : Bool × List (List Nat × List Nat) := (true, [([], []), ([0], [0]), ([1], [1]), ([], []), ([3], [3]), ([4], [4]), ([2, 5], [2, 5]), ([], []), ([7, 6, 0, 1, 2, 3, 4, 5, 6, 7], [6, 7])])
def lookoutref30_Decode.B11 : List Nat := [0, 1, 3, 0, 8, 24, 63, 0, 255]
theorem lookoutref30_Decode.tab11 : rtab .any (opsOf Try.f33 11) = lookoutref30_Decode.T11 := by kernel_rfl
theorem lookoutref30_Decode.bits11 : waitsOk lookoutref30_Decode.T11.2 lookoutref30_Decode.B11 = true := by kernel_rfl
set_option maxHeartbeats 8000000 in
set_option maxRecDepth 100000 in
theorem lookoutref30_Decode.calls (k : Nat) (a0 : ByteArray) (r1 : Int) (r2 : Int) (r3 : List Int) (r4 : Int) (w : World) (h : lookoutref30_Decode.f k a0 = some (r1, r2, r3, r4)) :
    Calls Try.prog 33 #[.string a0] w fun e w' => ∃ v2_ : Value, e = .returned (.tuple #[.agg #[.int .i64 r1, .int .i64 r2, v2_], .int .i64 r4]) ∧ Kd.R (Kd.int .i64) 3 w' w.heap.size (fun _ => True) v2_ r3 ∧ Below w.heap.size w w' := by
  have hu24 := Try.underlying24
  have HB := Aside0.mk (Below.refl w.heap.size w)
  have H : (lookoutref30_Decode.l0 k (([] : List Int)) a0) = some (r1, r2, r3, r4) := h
  clear h
  obtain ⟨y150, hy150⟩ : ∃ y_ : List Int, y_ = (([] : List Int)) := ⟨_, rfl⟩
  replace H : (lookoutref30_Decode.l0 k y150 a0) = some (r1, r2, r3, r4) := by first | (rw [hy150]; with_reducible exact H) | (have H2_ := (Option.bind_some _ _).symm.trans H; rw [hy150]; with_reducible exact H2_) | (have H2_ := (Option.bind_some _ _).symm.trans H; with_reducible exact H2_) | with_reducible exact H | (rw [hy150]; exact H) | exact H
  have Ny150 := Aside0.mk hy150
  clear hy150
  have H' := Aside0.mk H
  clear H
  go_enter Try.func33, Try.ntmps33
  go_wp2_with (first | ((with_reducible refine gate_dst (N := 2) rfl ?_); (try (refine gate_guard (by rfl) ?_; dsimp only)); refine box_event ?hg (N := 2) ?hd (cs := #[.int .i64 0, .int .i64 0, .slice none 0 0]) (t := 24) ?hr ?_; (case hd => rfl); (case hg => rfl); (case hr => first | (go_simp; done) | (go_simp; rfl)); intro gb149 hg w2 hbox hb; have n0_ := Aside0.mk (below_step (by repeat (first | (with_reducible first | exact HB.out | apply below_alloc | apply pw_below_drewN | apply below_drew1) | exact HB.out)) hb); have n1_ := Aside0.mk (hbox); have n2_ := Aside0.mk ((by rw [hg]; exact (below_size (by repeat (first | (with_reducible first | exact HB.out | apply below_alloc | apply pw_below_drewN | apply below_drew1) | exact HB.out))) : w.heap.size ≤ gb149)); have n3_ := Aside0.mk ((by rw [hg]; exact (below_size (by repeat (first | (with_reducible first | exact HB.out | apply below_alloc | apply pw_below_drewN | apply below_drew1) | exact HB.out))) : w.heap.size ≤ gb149)); clear HB; have HB := n0_; have BK149 := n1_; have GW149 := n2_; have GE149 := n3_; clear n0_ n1_ n2_ n3_; clear hb hbox hg) | ((with_reducible refine gate_dst (N := 12) rfl ?_); (try (refine gate_guard (by rfl) ?_; dsimp only)); refine Kd.R_lit (Kd.int .i64) _ 3 ?hg (N := 12) ?hd (xs := ([] : List Int)) (inner := []) (ok := fun _ => True) (okp := fun _ => True) ?hr ?hp (fun _ hk => hk) trivial (Below.refl _ _) (Nat.le_refl _) (by simp) ?_; (case hd => rfl); (case hg => rfl); (case hr => first | (go_simp; done) | (go_simp; rfl)); (case hp => exact (Reps.none _ _)); intro v151 w3 ho4 hb hg_ hnew_; clear hg_ hnew_; (first | rw [← Ny150.out] at ho4 | (simp only [Int.reduceToNat] at ho4; rw [← Ny150.out] at ho4)); have n0_ := Aside0.mk (Kd.R_lower ho4 (below_size (by repeat (first | (with_reducible first | exact HB.out | apply below_alloc | apply pw_below_drewN | apply below_drew1 | refine below_set ?_ GE149.out) | exact HB.out)))); have n1_ := Aside0.mk (blk_below (g := gb149) (o := .cells #[.int .i64 0, .int .i64 0, .slice none 0 0] 24 (0, 0)) (by (with_reducible repeat (first | refine blk_drewN ?_ _ | refine blk_drew ?_ | refine blk_alloc ?_ _)); exact BK149.out) hb); have n2_ := Aside0.mk (below_step (by repeat (first | (with_reducible first | exact HB.out | apply below_alloc | apply pw_below_drewN | apply below_drew1 | refine below_set ?_ GE149.out) | exact HB.out)) hb); clear BK149; clear HB; have HO152 := n0_; have BK149 := n1_; have HB := n2_; clear n0_ n1_ n2_; clear hb ho4))
  go_loopg [4, 5] k (fun kq v4 v5 w' => ∃ (x4_1 : List Int) (x5_1 : ByteArray) (x150000_1 : Int) (x150001_1 : Int), v5 = .string x5_1 ∧ Aside0 (lookoutref30_Decode.l0 kq x4_1 x5_1 = some (r1, r2, r3, r4)) ∧ Aside0 (kq ≤ k) ∧ Aside0 (Kd.R (Kd.int .i64) 3 w' w.heap.size (fun _ => True) v4 x4_1) ∧ Aside0 (w'.heap[gb149]? = some (.cells #[.int .i64 x150000_1, .int .i64 x150001_1, (.slice none 0 0)] 24 (0, 0))) ∧ Aside0 (Below w.heap.size w w'))
  case atStart => exact ⟨(y150), (a0), (0), (0), (by first | rfl | (simp; done) | (simp [*]; done)), H', ⟨Nat.le_refl _⟩, ⟨by (with_reducible repeat (first | apply Kd.R_alloc | apply Kd.R_drewN | apply Kd.R_drew)); exact HO152.out⟩, ⟨by (with_reducible repeat (first | refine blk_drewN ?_ _ | refine blk_drew ?_ | refine blk_alloc ?_ _)); exact BK149.out⟩, ⟨by repeat (first | (with_reducible first | exact HB.out | apply below_alloc | apply pw_below_drewN | apply below_drew1 | refine below_set ?_ GE149.out) | exact HB.out)⟩⟩
  case round =>
    clear H'
    try clear p2
    try clear c3
    obtain ⟨x4_1, x5_1, x150000_1, x150001_1, rfl, HA, HK1, HO_4, BK149, HB⟩ := hrel
    cases gk with
    | zero => exact absurd HA.out (by simp [lookoutref30_Decode.l0])
    | succ k1 =>
      have H := HA.out
      clear HA
      simp only [lookoutref30_Decode.l0] at H
      by_cases c5 : x5_1.toList = ([] : List UInt8)
      · rw [if_pos c5] at H
        have c5b0 : (x5_1.toList == ([] : List UInt8)) = true := beq_iff_eq.mpr c5
        have c5b1 : (x5_1.toList != ([] : List UInt8)) = false := bne_eq_false_iff_eq.mpr c5
        clear c5
        have HC6 := Aside0.mk H
        clear H
        go_upto_region 9 with (fail)
        go_cut [48] (fun v48 wc => ∃ (kq : Nat) (x48_5 : Bool), v48 = .bool x48_5 ∧ Aside0 (lookoutref30_Decode.j1 kq x4_1 x48_5 = some (r1, r2, r3, r4)) ∧ Aside0 (kq ≤ k1) ∧ Aside0 (Kd.R (Kd.int .i64) 3 wc w.heap.size (fun _ => True) u4 x4_1) ∧ Aside0 (wc.heap[gb149]? = some (.cells #[.int .i64 x150000_1, .int .i64 x150001_1, (.slice none 0 0)] 24 (0, 0))) ∧ Aside0 (Below w.heap.size w wc))
        case first =>
          have H := HC6.out
          clear HC6
          by_cases c7 : (x4_1.length : Int) < 3
          · rw [if_pos c7] at H
            have c7b0 : decide ((x4_1.length : Int) < 3) = true := decide_eq_true c7
            have c7b1 : decide (x4_1.length < 3) = true := decide_eq_true (by omega)
            clear c7
            (first | rw [c7b0] | (simp only [i64_w, i32_w]; rw [c7b0]) | rw [c7b1] | (simp only [i64_w, i32_w]; rw [c7b1]) | skip)
            have H' := Aside0.mk H
            clear H
            obtain ⟨Ao8, co8, eo8⟩ := Kd.R_slice HO_4.out
            subst eo8
            go_wp2
            go_meet
            case rel => exact ⟨_, (true), (by first | rfl | (simp; done) | (simp [*]; done)), H', ⟨by have := HK1.out; first | omega | exact Nat.le_refl _⟩, ⟨by (with_reducible repeat (first | apply Kd.R_alloc | apply Kd.R_drewN | apply Kd.R_drew)); exact HO_4.out⟩, ⟨by (with_reducible repeat (first | refine blk_drewN ?_ _ | refine blk_drew ?_ | refine blk_alloc ?_ _)); exact BK149.out⟩, ⟨by repeat (first | (with_reducible first | exact HB.out | apply below_alloc | apply pw_below_drewN | apply below_drew1 | refine below_set ?_ GE149.out) | exact HB.out)⟩⟩
          · rw [if_neg c7] at H
            have c7b0 : decide ((x4_1.length : Int) < 3) = false := decide_eq_false c7
            have c7b1 : decide (x4_1.length < 3) = false := decide_eq_false (by omega)
            clear c7
            (first | rw [c7b0] | (simp only [i64_w, i32_w]; rw [c7b0]) | rw [c7b1] | (simp only [i64_w, i32_w]; rw [c7b1]) | skip)
            by_cases c9 : (x4_1.length : Int) > 1003
            · rw [if_pos c9] at H
              have c9b0 : decide (1003 < (x4_1.length : Int)) = true := decide_eq_true c9
              have c9b1 : decide (1003 < x4_1.length) = true := decide_eq_true (by omega)
              clear c9
              have H' := Aside0.mk H
              clear H
              obtain ⟨Ao10, co10, eo10⟩ := Kd.R_slice HO_4.out
              subst eo10
              go_wp2
              go_meet
              case rel => exact ⟨_, (true), (by first | rfl | (simp; done) | (simp [*]; done)), H', ⟨by have := HK1.out; first | omega | exact Nat.le_refl _⟩, ⟨by (with_reducible repeat (first | apply Kd.R_alloc | apply Kd.R_drewN | apply Kd.R_drew)); exact HO_4.out⟩, ⟨by (with_reducible repeat (first | refine blk_drewN ?_ _ | refine blk_drew ?_ | refine blk_alloc ?_ _)); exact BK149.out⟩, ⟨by repeat (first | (with_reducible first | exact HB.out | apply below_alloc | apply pw_below_drewN | apply below_drew1 | refine below_set ?_ GE149.out) | exact HB.out)⟩⟩
            · rw [if_neg c9] at H
              have c9b0 : decide (1003 < (x4_1.length : Int)) = false := decide_eq_false c9
              have c9b1 : decide (1003 < x4_1.length) = false := decide_eq_false (by omega)
              clear c9
              by_cases c11 : 2 < (x4_1.length : Int)
              · rw [if_pos c11] at H
                have c11b0 : decide (2 < (x4_1.length : Int)) = true := decide_eq_true c11
                have c11b1 : decide (2 < x4_1.length) = true := decide_eq_true (by omega)
                clear c11
                have H' := Aside0.mk H
                clear H
                obtain ⟨Ao12, co12, eo12⟩ := Kd.R_slice HO_4.out
                subst eo12
                have p159 : 0 ≤ (2 : Int) := (by omega)
                have q159 : 2 < (x4_1.length : Int) := of_decide_eq_true (by first | (with_reducible assumption) | assumption)
                obtain ⟨ad159, e159, hx159_0⟩ := Kd.at_int (Kd.R_reads' HO_4.out).2.2 2 p159 q159
                cases e159
                (try simp only [show (2 : Int).toNat = 2 from rfl, Nat.reduceMul, Nat.reduceEqDiff, Go.Addr.add, ↓reduceIte] at hx159_0)
                have qi159 : (2 < x4_1.length) = True := eq_true (by omega)
                (try rw [show ((2 : Int)).toNat = 2 from rfl] at hx159_0)
                replace p159 := eq_true p159
                replace q159 := eq_true q159
                go_wp2
                go_meet
                case rel => exact ⟨_, (((rd x4_1 2) != (wrap64 ((x4_1.length : Int) - 3)))), (by first | rfl | (simp; done) | (simp [*]; done)), H', ⟨by have := HK1.out; first | omega | exact Nat.le_refl _⟩, ⟨by (with_reducible repeat (first | apply Kd.R_alloc | apply Kd.R_drewN | apply Kd.R_drew)); exact HO_4.out⟩, ⟨by (with_reducible repeat (first | refine blk_drewN ?_ _ | refine blk_drew ?_ | refine blk_alloc ?_ _)); exact BK149.out⟩, ⟨by repeat (first | (with_reducible first | exact HB.out | apply below_alloc | apply pw_below_drewN | apply below_drew1 | refine below_set ?_ GE149.out) | exact HB.out)⟩⟩
              · rw [if_neg c11] at H
                exact absurd H (by simp)
        case rest =>
          clear HC6
          try clear c1
          try clear p1
          try clear q1
          try clear hx1
          try clear qi1
          try clear p2
          try clear c3
          try clear c5
          try clear c5b0
          try clear c5b1
          try clear p6
          try clear c7
          try clear c7b0
          try clear c7b1
          try clear c9
          try clear c9b0
          try clear c9b1
          try clear c11
          try clear c11b0
          try clear c11b1
          try clear hx159_0
          try clear p159
          try clear p2
          try clear q159
          obtain ⟨kq, x48_5, rfl, HA, HJ5, HO_4, BK149, HB⟩ := hcut
          cases kq with
          | zero => exact absurd HA.out (by simp [lookoutref30_Decode.j1])
          | succ kj5 =>
            have H := HA.out
            clear HA
            simp only [lookoutref30_Decode.j1] at H
            by_cases c13 : x48_5 = true
            · subst c13
              have H1 : (some (0, 0, ([] : List Int), 12)) = some (r1, r2, r3, r4) := by rw [if_pos rfl] at H; exact H
              clear H
              have H := H1
              clear H1
              simp only [Option.some.injEq, Prod.mk.injEq] at H
              obtain ⟨rfl, rfl, rfl, rfl⟩ := H
              have hcz14_0 : wc.cell? ⟨gb149, 0, none⟩ = some (.int .i64 x150000_1) := (blk_cell BK149.out 0).trans rfl
              have hcz14_1 : wc.cell? ⟨gb149, 1, none⟩ = some (.int .i64 x150001_1) := (blk_cell BK149.out 1).trans rfl
              have hcz14_2 : wc.cell? ⟨gb149, 2, none⟩ = some (.slice none 0 0) := (blk_cell BK149.out 2).trans rfl
              have hfz14_0 := blk_frozen BK149.out 0
              have hfz14_1 := blk_frozen BK149.out 1
              have hfz14_2 := blk_frozen BK149.out 2
              go_wp2
              refine bodyPost_ret (results_ct rfl _ _ gb149 24 #[.int .i64 0, .int .i64 0, .slice none 0 0] (0, 0) _ rfl (by (with_reducible repeat (first | refine blk_drewN ?_ _ | refine blk_drew ?_ | refine blk_alloc ?_ _)); refine blk_put (cs := #[.int .i64 0, .int .i64 0, .slice none 0 0]) ?_ 2 _ rfl; (with_reducible repeat (first | refine blk_drewN ?_ _ | refine blk_drew ?_ | refine blk_alloc ?_ _)); refine blk_put (cs := #[.int .i64 0, .int .i64 x150001_1, .slice none 0 0]) ?_ 1 _ rfl; (with_reducible repeat (first | refine blk_drewN ?_ _ | refine blk_drew ?_ | refine blk_alloc ?_ _)); refine blk_put (cs := #[.int .i64 x150000_1, .int .i64 x150001_1, .slice none 0 0]) ?_ 0 _ rfl; (with_reducible repeat (first | refine blk_drewN ?_ _ | refine blk_drew ?_ | refine blk_alloc ?_ _)); exact BK149.out) Try.underlying24 rfl (by kernel_rfl)) rfl ?_
              exact ⟨_, by first | rfl | (simp [errW_none, errW_some] <;> rfl) | (simp [*, errW_none, errW_some] <;> rfl), by first | exact Kd.R_nil _ _ _ _ _ | exact Kd.N_nil _ _ _ _ _ | exact Kd.V_nil _ _ _ _ _ | exact Kd.Q_nil _ _ _ _ _ | exact Kd.S_nil _ _ _ _ _, by repeat (first | (with_reducible first | exact HB.out | apply below_alloc | apply pw_below_drewN | apply below_drew1 | refine below_set ?_ GE149.out) | exact HB.out)⟩
            · replace c13 := Bool.eq_false_iff.mpr c13
              subst c13
              have H1 : (if 0 < (x4_1.length : Int) then (if 1 < (x4_1.length : Int) then (lookoutref30_Decode.l1 kj5 x4_1 0 3 (rd x4_1 0) (rd x4_1 1) ([] : List Int)) else (none)) else (none)) = some (r1, r2, r3, r4) := by rw [if_neg (show ¬ (false = true) by decide)] at H; exact H
              clear H
              have H := H1
              clear H1
              by_cases c15 : 0 < (x4_1.length : Int)
              · rw [if_pos c15] at H
                have c15b0 : decide (0 < (x4_1.length : Int)) = true := decide_eq_true c15
                have c15b1 : decide (0 < x4_1.length) = true := decide_eq_true (by omega)
                clear c15
                by_cases c16 : 1 < (x4_1.length : Int)
                · rw [if_pos c16] at H
                  have c16b0 : decide (1 < (x4_1.length : Int)) = true := decide_eq_true c16
                  have c16b1 : decide (1 < x4_1.length) = true := decide_eq_true (by omega)
                  clear c16
                  have H' := Aside0.mk H
                  clear H
                  try go_wp2
                  have n0_ := Aside0.mk (Kd.R_drew HO_4.out)
                  have n1_ := Aside0.mk (blk_drew BK149.out)
                  have n2_ := Aside0.mk (below_drew1 HB.out)
                  clear HO_4
                  clear BK149
                  clear HB
                  have HO_4 := n0_
                  have BK149 := n1_
                  have HB := n2_
                  clear n0_ n1_ n2_
                  obtain ⟨Ao18, co18, eo18⟩ := Kd.R_slice HO_4.out
                  (first | subst eo18 | (injection eo18 with f1_ f2_ f3_; have f4_ := f1_.symm; have f5_ := f3_.symm; clear f1_ f2_ f3_; subst f4_; subst f5_))
                  have p160 : 0 ≤ (0 : Int) := (by omega)
                  have q160 : 0 < (x4_1.length : Int) := of_decide_eq_true (by first | (with_reducible assumption) | assumption)
                  obtain ⟨ad160, e160, hx160_0⟩ := Kd.at_int (Kd.R_reads' HO_4.out).2.2 0 p160 q160
                  cases e160
                  have qi160 : (0 < x4_1.length) = True := eq_true (by omega)
                  (try rw [show ((0 : Int)).toNat = 0 from rfl] at hx160_0)
                  (try rw [Addr.add_zero'] at hx160_0)
                  replace p160 := eq_true p160
                  replace q160 := eq_true q160
                  have p161 : 0 ≤ (1 : Int) := (by omega)
                  have q161 : 1 < (x4_1.length : Int) := of_decide_eq_true (by first | (with_reducible assumption) | assumption)
                  obtain ⟨ad161, e161, hx161_0⟩ := Kd.at_int (Kd.R_reads' HO_4.out).2.2 1 p161 q161
                  obtain rfl : ad160 = ad161 := (by injection e161)
                  (try simp only [show (1 : Int).toNat = 1 from rfl, Nat.reduceMul, Nat.reduceEqDiff, Go.Addr.add, ↓reduceIte] at hx161_0)
                  have qi161 : (1 < x4_1.length) = True := eq_true (by omega)
                  (try rw [show ((1 : Int)).toNat = 1 from rfl] at hx161_0)
                  replace p161 := eq_true p161
                  replace q161 := eq_true q161
                  refine start_ (n := 9) (S := fun w' => w'.cell? ad160 = some (.int .i64 (rd x4_1 0)) ∧ w'.cell? ⟨ad160.block, ad160.off + 1, none⟩ = some (.int .i64 (rd x4_1 1))) (ds := []) #[false, false, false, false, false, false, false, false, false] (by kernel_rfl) rfl rfl ⟨hx160_0, hx161_0⟩ (fun hHeld => ?_); refine with_tabW lookoutref30_Decode.tab11 lookoutref30_Decode.bits11 (fun HT_ HW_ => ?_)
                  generalize wc.drew = w17 at HO_4 BK149 HB hx160_0 hx161_0 hHeld ⊢
                  refine pure_ (i := 0) (N := some 50) (v := ?_) (a' := ?_) #[true, false, false, false, false, false, false, false, false] rfl rfl (any_of HT_.out (by kernel_rfl)) (fun _ _ _ h => h) (Or.inl ⟨by rfl, ?_⟩) ?_ ?_
                  rotate_left
                  · intro w'
                    go_simp
                    with_reducible rfl
                  rotate_left
                  · simp only [Act.put, List.setIfInBounds_toArray, List.set_cons_zero, List.set_cons_succ, i64_w, i32_w]
                    rfl
                  refine pure_ (i := 1) (N := some 51) (v := ?_) (a' := ?_) #[true, true, false, false, false, false, false, false, false] rfl rfl (any_of HT_.out (by kernel_rfl)) (fun _ _ _ h => h) (Or.inl ⟨by rfl, ?_⟩) ?_ ?_
                  rotate_left
                  · intro w'
                    go_simp
                    with_reducible rfl
                  rotate_left
                  · simp only [Act.put, List.setIfInBounds_toArray, List.set_cons_zero, List.set_cons_succ, i64_w, i32_w]
                    rfl
                  refine pure_ (i := 3) (N := some 53) (v := ?_) (a' := ?_) #[true, true, false, true, false, false, false, false, false] rfl rfl (any_of HT_.out (by kernel_rfl)) (fun _ _ _ h => h) (Or.inl ⟨by rfl, ?_⟩) ?_ ?_
                  rotate_left
                  · intro w'
                    go_simp
                    with_reducible rfl
                  rotate_left
                  · simp only [Act.put, List.setIfInBounds_toArray, List.set_cons_zero, List.set_cons_succ, i64_w, i32_w]
                    rfl
                  refine pure_ (i := 4) (N := some 54) (v := ?_) (a' := ?_) #[true, true, false, true, true, false, false, false, false] rfl rfl (any_of HT_.out (by kernel_rfl)) (fun _ _ _ h => h) (Or.inl ⟨by rfl, ?_⟩) ?_ ?_
                  rotate_left
                  · intro w'
                    go_simp
                    with_reducible rfl
                  rotate_left
                  · simp only [Act.put, List.setIfInBounds_toArray, List.set_cons_zero, List.set_cons_succ, i64_w, i32_w]
                    rfl
                  refine take_ (i := 2) (N := some 52) (v := ?_) (a' := ?_) #[true, true, true, true, true, false, false, false, false] rfl rfl (take_ofW HT_.out HW_.out (by kernel_rfl)) (fun _ _ _ h => h) (Or.inl ⟨by rfl, ?_⟩) hHeld ?_ ?_
                  rotate_left
                  · rintro w' ⟨s0, s1⟩
                    go_simp
                    with_reducible rfl
                  rotate_left
                  · simp only [Act.put, List.setIfInBounds_toArray, List.set_cons_zero, List.set_cons_succ, i64_w, i32_w]
                    rfl
                  refine take_ (i := 5) (N := some 55) (v := ?_) (a' := ?_) #[true, true, true, true, true, true, false, false, false] rfl rfl (take_ofW HT_.out HW_.out (by kernel_rfl)) (fun _ _ _ h => h) (Or.inl ⟨by rfl, ?_⟩) hHeld ?_ ?_
                  rotate_left
                  · rintro w' ⟨s0, s1⟩
                    go_simp
                    with_reducible rfl
                  rotate_left
                  · simp only [Act.put, List.setIfInBounds_toArray, List.set_cons_zero, List.set_cons_succ, i64_w, i32_w]
                    rfl
                  refine pure_ (i := 6) (N := some 56) (v := ?_) (a' := ?_) #[true, true, true, true, true, true, true, false, false] rfl rfl (any_of HT_.out (by kernel_rfl)) (fun _ _ _ h => h) (Or.inl ⟨by rfl, ?_⟩) ?_ ?_
                  rotate_left
                  · intro w'
                    go_simp
                    with_reducible rfl
                  rotate_left
                  · simp only [Act.put, List.setIfInBounds_toArray, List.set_cons_zero, List.set_cons_succ, i64_w, i32_w]
                    rfl
                  refine one_ (i := 7) (N := some 9) #[true, true, true, true, true, true, true, true, false] rfl rfl (one_of HT_.out (by kernel_rfl)) (by decide) (fun K hK => ?_)
                  refine box_step ?hg (N := 9) ?hd (cs := #[.int .i64 0, .int .i64 0, .slice none 0 0]) (t := 24) ?hr ?_; (case hd => rfl); (case hg => rfl); (case hr => first | (go_simp; done) | (go_simp; rfl))
                  intro gb162 hg w19 hbox hb
                  have HS0_ := (hb.cell (World.block_lt_of_cell? _ _ (hHeld.1))).trans (hHeld.1)
                  have HS1_ := (hb.cell (World.block_lt_of_cell? _ _ (hHeld.2))).trans (hHeld.2)
                  have n0_ := Aside0.mk (Kd.R_below (by (with_reducible repeat (first | apply Kd.R_alloc | apply Kd.R_drewN | apply Kd.R_drew)); exact HO_4.out) hb)
                  have n1_ := Aside0.mk (blk_below (g := gb149) (o := .cells #[.int .i64 x150000_1, .int .i64 x150001_1, .slice none 0 0] 24 (0, 0)) (by (with_reducible repeat (first | refine blk_drewN ?_ _ | refine blk_drew ?_ | refine blk_alloc ?_ _)); exact BK149.out) hb)
                  have n2_ := Aside0.mk (below_step (by repeat (first | (with_reducible first | exact HB.out | apply below_alloc | apply pw_below_drewN | apply below_drew1 | refine below_set ?_ GE149.out) | exact HB.out)) hb)
                  have n3_ := Aside0.mk (hbox)
                  have n4_ := Aside0.mk ((by rw [hg]; exact (below_size (by repeat (first | (with_reducible first | exact HB.out | apply below_alloc | apply pw_below_drewN | apply below_drew1 | refine below_set ?_ GE149.out) | exact HB.out))) : w.heap.size ≤ gb162))
                  have n5_ := Aside0.mk ((by rw [hg]; exact (below_size (by repeat (first | (with_reducible first | exact HB.out | apply below_alloc | apply pw_below_drewN | apply below_drew1 | refine below_set ?_ GE149.out) | exact HB.out))) : w.heap.size ≤ gb162))
                  have n6_ := Aside0.mk ((by rw [hg]; exact Nat.ne_of_lt (blk_lt (g := gb149) (o := .cells #[.int .i64 x150000_1, .int .i64 x150001_1, .slice none 0 0] 24 (0, 0)) (by (with_reducible repeat (first | refine blk_drewN ?_ _ | refine blk_drew ?_ | refine blk_alloc ?_ _)); exact BK149.out)) : gb149 ≠ gb162))
                  have n7_ := Aside0.mk ((by rw [hg]; exact Nat.ne_of_gt (blk_lt (g := gb149) (o := .cells #[.int .i64 x150000_1, .int .i64 x150001_1, .slice none 0 0] 24 (0, 0)) (by (with_reducible repeat (first | refine blk_drewN ?_ _ | refine blk_drew ?_ | refine blk_alloc ?_ _)); exact BK149.out)) : gb162 ≠ gb149))
                  clear HO_4
                  clear BK149
                  clear HB
                  have HO_4 := n0_
                  have BK149 := n1_
                  have HB := n2_
                  have BK162 := n3_
                  have GW162 := n4_
                  have GE162 := n5_
                  have NB149_162 := n6_
                  have NB162_149 := n7_
                  clear n0_ n1_ n2_ n3_ n4_ n5_ n6_ n7_
                  clear hb hbox hg
                  refine hK.out _ _ ⟨HS0_, HS1_⟩ (fun hHeld => ?_)
                  clear hK K
                  refine norm_ (a' := ?_) ?_ ?_
                  rotate_left
                  · show Act.put _ (some 9) _ = _
                    simp only [Act.put, List.setIfInBounds_toArray, List.set_cons_zero, List.set_cons_succ, i64_w, i32_w]
                    rfl
                  refine one_ (i := 8) (N := none) #[true, true, true, true, true, true, true, true, true] rfl rfl (one_of HT_.out (by kernel_rfl)) (by decide) (fun K hK => ?_)
                  have hs20 : w19.cell? ⟨gb162, 0, none⟩ = some (.int .i64 0) := (blk_cell BK162.out 0).trans rfl
                  have hfs20 := blk_frozen BK162.out 0
                  have hns20_0 := NB149_162.out
                  have hms20_0 := NB162_149.out
                  have hs21 : w19.cell? ⟨gb162, 1, none⟩ = some (.int .i64 0) := (blk_cell BK162.out 1).trans rfl
                  have hfs21 := blk_frozen BK162.out 1
                  have hns21_0 := NB149_162.out
                  have hms21_0 := NB162_149.out
                  have hs22 : w19.cell? ⟨gb162, 2, none⟩ = some (.slice none 0 0) := (blk_cell BK162.out 2).trans rfl
                  have hfs22 := blk_frozen BK162.out 2
                  have hns22_0 := NB149_162.out
                  have hms22_0 := NB162_149.out
                  refine skip_ (w1 := ?_) (by rfl) rfl ?_ ?_
                  rotate_left
                  · go_simp
                    rfl
                  refine hK.out _ _ ⟨((cell_far (p := ⟨gb162, _, none⟩) (by first | exact Kd.own_blk (Kd.R_ne HO_4.out BK162.out (by decide)) | (rw [add_block]; exact Kd.own_blk (Kd.R_ne HO_4.out BK162.out (by decide))) | (show (Addr.add _ _).block ≠ _; rw [add_block]; exact Kd.own_blk (Kd.R_ne HO_4.out BK162.out (by decide))) | (dsimp only; exact Kd.own_blk (Kd.R_ne HO_4.out BK162.out (by decide)))) _).trans (((cell_far (p := ⟨gb162, _, none⟩) (by first | exact Kd.own_blk (Kd.R_ne HO_4.out BK162.out (by decide)) | (rw [add_block]; exact Kd.own_blk (Kd.R_ne HO_4.out BK162.out (by decide))) | (show (Addr.add _ _).block ≠ _; rw [add_block]; exact Kd.own_blk (Kd.R_ne HO_4.out BK162.out (by decide))) | (dsimp only; exact Kd.own_blk (Kd.R_ne HO_4.out BK162.out (by decide)))) _).trans (((cell_far (p := ⟨gb162, _, none⟩) (by first | exact Kd.own_blk (Kd.R_ne HO_4.out BK162.out (by decide)) | (rw [add_block]; exact Kd.own_blk (Kd.R_ne HO_4.out BK162.out (by decide))) | (show (Addr.add _ _).block ≠ _; rw [add_block]; exact Kd.own_blk (Kd.R_ne HO_4.out BK162.out (by decide))) | (dsimp only; exact Kd.own_blk (Kd.R_ne HO_4.out BK162.out (by decide)))) _).trans (hHeld.1)))))), ((cell_far (p := ⟨gb162, _, none⟩) (by first | exact Kd.own_blk (Kd.R_ne HO_4.out BK162.out (by decide)) | (rw [add_block]; exact Kd.own_blk (Kd.R_ne HO_4.out BK162.out (by decide))) | (show (Addr.add _ _).block ≠ _; rw [add_block]; exact Kd.own_blk (Kd.R_ne HO_4.out BK162.out (by decide))) | (dsimp only; exact Kd.own_blk (Kd.R_ne HO_4.out BK162.out (by decide)))) _).trans (((cell_far (p := ⟨gb162, _, none⟩) (by first | exact Kd.own_blk (Kd.R_ne HO_4.out BK162.out (by decide)) | (rw [add_block]; exact Kd.own_blk (Kd.R_ne HO_4.out BK162.out (by decide))) | (show (Addr.add _ _).block ≠ _; rw [add_block]; exact Kd.own_blk (Kd.R_ne HO_4.out BK162.out (by decide))) | (dsimp only; exact Kd.own_blk (Kd.R_ne HO_4.out BK162.out (by decide)))) _).trans (((cell_far (p := ⟨gb162, _, none⟩) (by first | exact Kd.own_blk (Kd.R_ne HO_4.out BK162.out (by decide)) | (rw [add_block]; exact Kd.own_blk (Kd.R_ne HO_4.out BK162.out (by decide))) | (show (Addr.add _ _).block ≠ _; rw [add_block]; exact Kd.own_blk (Kd.R_ne HO_4.out BK162.out (by decide))) | (dsimp only; exact Kd.own_blk (Kd.R_ne HO_4.out BK162.out (by decide)))) _).trans (hHeld.2))))))⟩ (fun hHeld => ?_)
                  clear hK K
                  refine done_ (done_of HT_.out (by kernel_rfl)) ?_
                  try go_wp2
                  go_loopg [10, 11] kj5 (fun kq v10 v11 w' => ∃ (x10_3 : Int) (x11_3 : Int) (x150000_3 : Int) (x150001_3 : Int) (x163002_3 : List Int) (u163002 : Value), v10 = .int .i64 x10_3 ∧ v11 = .int .i64 x11_3 ∧ Aside0 (lookoutref30_Decode.l1 kq x4_1 x10_3 x11_3 (rd x4_1 0) (rd x4_1 1) x163002_3 = some (r1, r2, r3, r4)) ∧ Aside0 (kq ≤ kj5) ∧ Aside0 (Kd.R (Kd.int .i64) 3 w' w.heap.size (fun k_ => some k_ ≠ (u163002 : Value).ownBlock) (.slice (some ad160) x4_1.length co18) x4_1) ∧ Aside0 (Kd.R (Kd.int .i64) 3 w' w.heap.size (fun k_ => some k_ ≠ ((.slice (some ad160) x4_1.length co18) : Value).ownBlock) u163002 x163002_3) ∧ Aside0 (w'.heap[gb149]? = some (.cells #[.int .i64 x150000_3, .int .i64 x150001_3, (.slice none 0 0)] 24 (0, 0))) ∧ Aside0 (w'.heap[gb162]? = some (.cells #[.int .i64 (rd x4_1 0), .int .i64 (rd x4_1 1), u163002] 24 (0, 0))) ∧ Aside0 (Below w.heap.size w w'))
                  case atStart => exact ⟨(0), (3), (x150000_1), (x150001_1), (([] : List Int)), (.slice none 0 0), (by first | rfl | (simp; done) | (simp [*]; done)), (by first | rfl | (simp; done) | (simp [*]; done)), H', ⟨Nat.le_refl _⟩, ⟨by (with_reducible repeat (first | apply Kd.R_alloc | apply Kd.R_drewN | apply Kd.R_drew)); exact Kd.R_mono (Kd.R_far (p := ⟨gb162, 2, none⟩) (Kd.R_far (p := ⟨gb162, 1, none⟩) (Kd.R_far (p := ⟨gb162, 0, none⟩) (Kd.R_types HO_4.out BK162.out (by decide)) (fun _ hk => hk.2) (.int .i64 (rd x4_1 0))) (fun _ hk => hk.2) (.int .i64 (rd x4_1 1))) (fun _ hk => hk.2) (.slice none 0 0)) (fun _ hk => (by simp [Value.ownBlock]))⟩, ⟨by first | exact Kd.R_nil _ _ _ _ _ | exact Kd.N_nil _ _ _ _ _ | exact Kd.V_nil _ _ _ _ _ | exact Kd.Q_nil _ _ _ _ _ | exact Kd.S_nil _ _ _ _ _⟩, ⟨by (with_reducible repeat (first | refine blk_drewN ?_ _ | refine blk_drew ?_ | refine blk_alloc ?_ _)); refine blk_far ?_ NB149_162.out _; (with_reducible repeat (first | refine blk_drewN ?_ _ | refine blk_drew ?_ | refine blk_alloc ?_ _)); refine blk_far ?_ NB149_162.out _; (with_reducible repeat (first | refine blk_drewN ?_ _ | refine blk_drew ?_ | refine blk_alloc ?_ _)); refine blk_far ?_ NB149_162.out _; (with_reducible repeat (first | refine blk_drewN ?_ _ | refine blk_drew ?_ | refine blk_alloc ?_ _)); exact BK149.out⟩, ⟨by (with_reducible repeat (first | refine blk_drewN ?_ _ | refine blk_drew ?_ | refine blk_alloc ?_ _)); refine blk_put (cs := #[.int .i64 (rd x4_1 0), .int .i64 (rd x4_1 1), .slice none 0 0]) ?_ 2 _ rfl; (with_reducible repeat (first | refine blk_drewN ?_ _ | refine blk_drew ?_ | refine blk_alloc ?_ _)); refine blk_put (cs := #[.int .i64 (rd x4_1 0), .int .i64 0, .slice none 0 0]) ?_ 1 _ rfl; (with_reducible repeat (first | refine blk_drewN ?_ _ | refine blk_drew ?_ | refine blk_alloc ?_ _)); refine blk_put (cs := #[.int .i64 0, .int .i64 0, .slice none 0 0]) ?_ 0 _ rfl; (with_reducible repeat (first | refine blk_drewN ?_ _ | refine blk_drew ?_ | refine blk_alloc ?_ _)); exact BK162.out⟩, ⟨by repeat (first | (with_reducible first | exact HB.out | apply below_alloc | apply pw_below_drewN | apply below_drew1 | refine below_set ?_ GE149.out | refine below_set ?_ GE162.out) | exact HB.out)⟩⟩
                  case round =>
                    clear H'
                    try clear c1
                    try clear p1
                    try clear q1
                    try clear hx1
                    try clear qi1
                    try clear p2
                    try clear c3
                    try clear c5
                    try clear c5b0
                    try clear c5b1
                    try clear p6
                    try clear c7
                    try clear c7b0
                    try clear c7b1
                    try clear c9
                    try clear c9b0
                    try clear c9b1
                    try clear c11
                    try clear c11b0
                    try clear c11b1
                    try clear c13
                    try clear c15
                    try clear c15b0
                    try clear c15b1
                    try clear p15
                    try clear q15
                    try clear hx15
                    try clear qi15
                    try clear c16
                    try clear c16b0
                    try clear c16b1
                    try clear p16
                    try clear q16
                    try clear hx16
                    try clear qi16
                    try clear hcz14_0
                    try clear hcz14_1
                    try clear hcz14_2
                    try clear hfz14_0
                    try clear hfz14_1
                    try clear hfz14_2
                    try clear hx159_0
                    try clear hx160_0
                    try clear hx161_0
                    try clear p1
                    try clear p159
                    try clear p160
                    try clear p161
                    try clear p2
                    try clear p6
                    try clear q1
                    try clear q159
                    try clear q160
                    try clear q161
                    obtain ⟨x10_3, x11_3, x150000_3, x150001_3, x163002_3, u163002, rfl, rfl, HA, HK3, HO_4, HO_163002, BK149, BK162, HB⟩ := hrel
                    cases gk with
                    | zero => exact absurd HA.out (by simp [lookoutref30_Decode.l1])
                    | succ k3 =>
                      have H := HA.out
                      clear HA
                      simp only [lookoutref30_Decode.l1] at H
                      by_cases c23 : x11_3 < (x4_1.length : Int)
                      · rw [if_pos c23] at H
                        have c23b0 : decide (x11_3 < (x4_1.length : Int)) = true := decide_eq_true c23
                        clear c23
                        by_cases c24 : 0 ≤ x11_3
                        · rw [if_pos c24] at H
                          have c24b0 : decide (0 ≤ x11_3) = true := decide_eq_true c24
                          clear c24
                          by_cases c25 : (rd x4_1 x11_3) ≥ 4294967296
                          · rw [if_pos c25] at H
                            have c25b0 : decide (4294967296 ≤ (rd x4_1 x11_3)) = true := decide_eq_true c25
                            clear c25
                            simp only [Option.some.injEq, Prod.mk.injEq] at H
                            obtain ⟨rfl, rfl, rfl, rfl⟩ := H
                            have p163 : 0 ≤ (x11_3 : Int) := of_decide_eq_true (by first | (with_reducible assumption) | assumption)
                            have q163 : x11_3 < (x4_1.length : Int) := of_decide_eq_true (by first | (with_reducible assumption) | assumption)
                            obtain ⟨ad163, e163, hx163_0⟩ := Kd.at_int (Kd.R_reads' HO_4.out).2.2 x11_3 p163 q163
                            obtain rfl : ad160 = ad163 := (by injection e163)
                            replace p163 := eq_true p163
                            replace q163 := eq_true q163
                            have hnb26 := NB149_162.out
                            have hnc26 := NB162_149.out
                            have hcz27_0 : wr.cell? ⟨gb149, 0, none⟩ = some (.int .i64 x150000_3) := (blk_cell BK149.out 0).trans rfl
                            have hcz27_1 : wr.cell? ⟨gb149, 1, none⟩ = some (.int .i64 x150001_3) := (blk_cell BK149.out 1).trans rfl
                            have hcz27_2 : wr.cell? ⟨gb149, 2, none⟩ = some (.slice none 0 0) := (blk_cell BK149.out 2).trans rfl
                            have hfz27_0 := blk_frozen BK149.out 0
                            have hfz27_1 := blk_frozen BK149.out 1
                            have hfz27_2 := blk_frozen BK149.out 2
                            go_wp2
                            refine bodyPost_ret (results_ct rfl _ _ gb149 24 #[.int .i64 0, .int .i64 0, .slice none 0 0] (0, 0) _ rfl (by (with_reducible repeat (first | refine blk_drewN ?_ _ | refine blk_drew ?_ | refine blk_alloc ?_ _)); refine blk_put (cs := #[.int .i64 0, .int .i64 0, .slice none 0 0]) ?_ 2 _ rfl; (with_reducible repeat (first | refine blk_drewN ?_ _ | refine blk_drew ?_ | refine blk_alloc ?_ _)); refine blk_put (cs := #[.int .i64 0, .int .i64 x150001_3, .slice none 0 0]) ?_ 1 _ rfl; (with_reducible repeat (first | refine blk_drewN ?_ _ | refine blk_drew ?_ | refine blk_alloc ?_ _)); refine blk_put (cs := #[.int .i64 x150000_3, .int .i64 x150001_3, .slice none 0 0]) ?_ 0 _ rfl; (with_reducible repeat (first | refine blk_drewN ?_ _ | refine blk_drew ?_ | refine blk_alloc ?_ _)); exact BK149.out) Try.underlying24 rfl (by kernel_rfl)) rfl ?_
                            exact ⟨_, by first | rfl | (simp [errW_none, errW_some] <;> rfl) | (simp [*, errW_none, errW_some] <;> rfl), by first | exact Kd.R_nil _ _ _ _ _ | exact Kd.N_nil _ _ _ _ _ | exact Kd.V_nil _ _ _ _ _ | exact Kd.Q_nil _ _ _ _ _ | exact Kd.S_nil _ _ _ _ _, by repeat (first | (with_reducible first | exact HB.out | apply below_alloc | apply pw_below_drewN | apply below_drew1 | refine below_set ?_ GE149.out | refine below_set ?_ GE162.out) | exact HB.out)⟩
                          · rw [if_neg c25] at H
                            have c25b0 : decide (4294967296 ≤ (rd x4_1 x11_3)) = false := decide_eq_false c25
                            clear c25
                            by_cases c28 : x163002_3.length < 17592186044416
                            · rw [if_pos c28] at H
                              have LMc28 := Aside0.mk c28
                              clear c28
                              obtain ⟨y165, hy165⟩ : ∃ y_ : List Int, y_ = (x163002_3 ++ [wrap64 (x10_3 + (rd x4_1 x11_3))]) := ⟨_, rfl⟩
                              replace H : (lookoutref30_Decode.l1 k3 x4_1 (wrap64 (x10_3 + (rd x4_1 x11_3))) (wrap64 (x11_3 + 1)) (rd x4_1 0) (rd x4_1 1) y165) = some (r1, r2, r3, r4) := by first | (rw [hy165]; with_reducible exact H) | (have H2_ := (Option.bind_some _ _).symm.trans H; rw [hy165]; with_reducible exact H2_) | (have H2_ := (Option.bind_some _ _).symm.trans H; with_reducible exact H2_) | with_reducible exact H | (rw [hy165]; exact H) | exact H
                              have Ny165 := Aside0.mk hy165
                              clear hy165
                              have H' := Aside0.mk H
                              clear H
                              have p163 : 0 ≤ (x11_3 : Int) := of_decide_eq_true (by first | (with_reducible assumption) | assumption)
                              have q163 : x11_3 < (x4_1.length : Int) := of_decide_eq_true (by first | (with_reducible assumption) | assumption)
                              obtain ⟨ad163, e163, hx163_0⟩ := Kd.at_int (Kd.R_reads' HO_4.out).2.2 x11_3 p163 q163
                              obtain rfl : ad160 = ad163 := (by injection e163)
                              replace p163 := eq_true p163
                              replace q163 := eq_true q163
                              have p164 : 0 ≤ (x11_3 : Int) := of_decide_eq_true (by first | (with_reducible assumption) | assumption)
                              have q164 : x11_3 < (x4_1.length : Int) := of_decide_eq_true (by first | (with_reducible assumption) | assumption)
                              obtain ⟨ad164, e164, hx164_0⟩ := Kd.at_int (Kd.R_reads' HO_4.out).2.2 x11_3 p164 q164
                              obtain rfl : ad160 = ad164 := (by injection e164)
                              replace p164 := eq_true p164
                              replace q164 := eq_true q164
                              have hnb29 := NB162_149.out
                              have hnc29 := NB149_162.out
                              have hcz30_0 : wr.cell? ⟨gb162, 0, none⟩ = some (.int .i64 (rd x4_1 0)) := (blk_cell BK162.out 0).trans rfl
                              have hcz30_1 : wr.cell? ⟨gb162, 1, none⟩ = some (.int .i64 (rd x4_1 1)) := (blk_cell BK162.out 1).trans rfl
                              have hcz30_2 : wr.cell? ⟨gb162, 2, none⟩ = some (u163002) := (blk_cell BK162.out 2).trans rfl
                              have hfz30_0 := blk_frozen BK162.out 0
                              have hfz30_1 := blk_frozen BK162.out 1
                              have hfz30_2 := blk_frozen BK162.out 2
                              go_wp2_with (first | ((with_reducible refine gate_builtin (b := .append) (xs := #[.tmp 76, .tmp 78]) rfl ?_); (try (refine gate_guard (by rfl) ?_; dsimp only)); at_builtin; refine Kd.R_append (Kd.int .i64) (w0 := w) w.heap.size rfl (.tmp 76) (.tmp 78) 22 3 (.int .i64 0) 8 rfl Try.underlying22 info3 rfl (by decide) (by omega) u163002 x163002_3 (wrap64 (x10_3 + (rd x4_1 x11_3))) [.int .i64 (wrap64 (x10_3 + (rd x4_1 x11_3)))] (fun k_ => some k_ ≠ (.slice (some ad160) x4_1.length co18 : Value).ownBlock) (fun _ => False) rfl rfl ?aP (fun _ hk => hk.elim) ?aF ?aO ?aB ?aS ?aL ?_; (case aP => exact rfl); (case aB => exact (by repeat (first | (with_reducible first | exact HB.out | apply below_alloc | apply pw_below_drewN | apply below_drew1 | refine below_set ?_ GE149.out | refine below_set ?_ GE162.out) | exact HB.out))); (case aF => exact (fun k_ hk => Kd.fresh' (Kd.R_lt (by (with_reducible repeat (first | apply Kd.R_alloc | apply Kd.R_drewN | apply Kd.R_drew)); exact HO_4.out)) k_ hk)); (case aO => exact (by (with_reducible repeat (first | apply Kd.R_alloc | apply Kd.R_drewN | apply Kd.R_drew)); exact HO_163002.out)); (case aS => exact (below_size (by repeat (first | (with_reducible first | exact HB.out | apply below_alloc | apply pw_below_drewN | apply below_drew1 | refine below_set ?_ GE149.out | refine below_set ?_ GE162.out) | exact HB.out)))); (case aL => have := LMc28.out; omega); intro v166 w31 ho hb hg hat; rw [← Ny165.out] at ho; have n0_ := Aside0.mk (Kd.R_after (ok := (fun _ => True)) (by (with_reducible repeat (first | apply Kd.R_alloc | apply Kd.R_drewN | apply Kd.R_drew)); exact Kd.R_mono HO_4.out (fun _ hk => ⟨trivial, hk⟩)) hg hat); have n1_ := Aside0.mk (blk_grown (g := gb149) (o := .cells #[.int .i64 x150000_3, .int .i64 x150001_3, .slice none 0 0] 24 (0, 0)) (by (with_reducible repeat (first | refine blk_drewN ?_ _ | refine blk_drew ?_ | refine blk_alloc ?_ _)); exact BK149.out) hg (Kd.R_ne HO_163002.out BK149.out (by decide))); have n2_ := Aside0.mk (blk_grown (g := gb162) (o := .cells #[.int .i64 (rd x4_1 0), .int .i64 (rd x4_1 1), u163002] 24 (0, 0)) (by (with_reducible repeat (first | refine blk_drewN ?_ _ | refine blk_drew ?_ | refine blk_alloc ?_ _)); exact BK162.out) hg (Kd.R_ne HO_163002.out BK162.out (by decide))); have n3_ := Aside0.mk (hb); have n4_ := Aside0.mk (ho); clear HO_4; clear BK149; clear BK162; clear HB; clear HO_163002; have HO_4 := n0_; have BK149 := n1_; have BK162 := n2_; have HB := n3_; have HO167 := n4_; clear n0_ n1_ n2_ n3_ n4_; clear ho hb hg hat; obtain ⟨Ao32, co32, eo32⟩ := Kd.R_slice HO167.out; subst eo32; have hcz33_0 : w31.cell? ⟨gb162, 0, none⟩ = some (.int .i64 (rd x4_1 0)) := (blk_cell BK162.out 0).trans rfl; have hcz33_1 : w31.cell? ⟨gb162, 1, none⟩ = some (.int .i64 (rd x4_1 1)) := (blk_cell BK162.out 1).trans rfl; have hcz33_2 : w31.cell? ⟨gb162, 2, none⟩ = some (u163002) := (blk_cell BK162.out 2).trans rfl; have hfz33_0 := blk_frozen BK162.out 0; have hfz33_1 := blk_frozen BK162.out 1; have hfz33_2 := blk_frozen BK162.out 2))
                              go_roundg k3
                              case measure => have := HK1.out; have := HJ5.out; have := HK3.out; omega
                              case rel => exact ⟨(wrap64 (x10_3 + (rd x4_1 x11_3))), (wrap64 (x11_3 + 1)), (x150000_3), (x150001_3), (y165), (.slice Ao32 y165.length co32), (by first | rfl | (simp; done) | (simp [*]; done)), (by first | rfl | (simp; done) | (simp [*]; done)), H', ⟨by have := HK1.out; have := HJ5.out; have := HK3.out; omega⟩, ⟨by (with_reducible repeat (first | apply Kd.R_alloc | apply Kd.R_drewN | apply Kd.R_drew)); exact Kd.R_mono (Kd.R_far (p := ⟨gb162, 2, none⟩) (Kd.R_types HO_4.out BK162.out (by decide)) (fun _ hk => hk.2) (.slice Ao32 y165.length co32)) (fun _ hk => hk.1.2)⟩, ⟨by (with_reducible repeat (first | apply Kd.R_alloc | apply Kd.R_drewN | apply Kd.R_drew)); exact Kd.R_mono (Kd.R_far (p := ⟨gb162, 2, none⟩) (Kd.R_types HO167.out BK162.out (by decide)) (fun _ hk => hk.2) (.slice Ao32 y165.length co32)) (fun _ hk => hk.1)⟩, ⟨by (with_reducible repeat (first | refine blk_drewN ?_ _ | refine blk_drew ?_ | refine blk_alloc ?_ _)); refine blk_far ?_ NB149_162.out _; (with_reducible repeat (first | refine blk_drewN ?_ _ | refine blk_drew ?_ | refine blk_alloc ?_ _)); exact BK149.out⟩, ⟨by (with_reducible repeat (first | refine blk_drewN ?_ _ | refine blk_drew ?_ | refine blk_alloc ?_ _)); refine blk_put (cs := #[.int .i64 (rd x4_1 0), .int .i64 (rd x4_1 1), u163002]) ?_ 2 _ rfl; (with_reducible repeat (first | refine blk_drewN ?_ _ | refine blk_drew ?_ | refine blk_alloc ?_ _)); exact BK162.out⟩, ⟨by repeat (first | (with_reducible first | exact HB.out | apply below_alloc | apply pw_below_drewN | apply below_drew1 | refine below_set ?_ GE149.out | refine below_set ?_ GE162.out) | exact HB.out)⟩⟩
                            · rw [if_neg c28] at H
                              exact absurd H (by simp)
                        · rw [if_neg c24] at H
                          exact absurd H (by simp)
                      · rw [if_neg c23] at H
                        have c23b0 : decide (x11_3 < (x4_1.length : Int)) = false := decide_eq_false c23
                        clear c23
                        replace H := Option.bind_eq_some_iff.mp H
                        obtain ⟨t168, A340, H⟩ := H
                        replace H : (if t168 = 0 then (some ((rd x4_1 0), (rd x4_1 1), x163002_3, 0)) else (some (0, 0, ([] : List Int), 12))) = some (r1, r2, r3, r4) := H
                        have A34 := Aside0.mk A340
                        clear A340
                        by_cases c35 : t168 = 0
                        · rw [if_pos c35] at H
                          have c35b0 : (t168 == 0) = true := beq_iff_eq.mpr c35
                          have c35b1 : (t168 != 0) = false := bne_eq_false_iff_eq.mpr c35
                          clear c35
                          simp only [Option.some.injEq, Prod.mk.injEq] at H
                          obtain ⟨rfl, rfl, rfl, rfl⟩ := H
                          have hnb36 := NB162_149.out
                          have hnc36 := NB149_162.out
                          have hcz37_0 : wr.cell? ⟨gb162, 0, none⟩ = some (.int .i64 (rd x4_1 0)) := (blk_cell BK162.out 0).trans rfl
                          have hcz37_1 : wr.cell? ⟨gb162, 1, none⟩ = some (.int .i64 (rd x4_1 1)) := (blk_cell BK162.out 1).trans rfl
                          have hcz37_2 : wr.cell? ⟨gb162, 2, none⟩ = some (u163002) := (blk_cell BK162.out 2).trans rfl
                          have hfz37_0 := blk_frozen BK162.out 0
                          have hfz37_1 := blk_frozen BK162.out 1
                          have hfz37_2 := blk_frozen BK162.out 2
                          obtain ⟨Ao38, co38, eo38⟩ := Kd.R_slice HO_163002.out
                          subst eo38
                          go_wp2_with (first | ((with_reducible refine gate_callee (f := 18) rfl ?_); refine goesL_ (some 82) rfl rfl Try.func18 (by kernel_rfl) rfl #[.agg #[.int .i64 (rd x4_1 0), .int .i64 (rd x4_1 1), .slice Ao38 x163002_3.length co38]] rfl (by (try simp only [List.map_toArray, List.map_cons, List.map_nil]); first | done | rfl | (simp only [List.length_drop, List.length_take]; rfl)) ?_; (with_reducible refine (lookoutref30_Check.calls k3 (rd x4_1 0) (rd x4_1 1) _ _ x163002_3 t168 _ ?side1 ?side2 A34.out).mono ?_); (case side1 => repeat (first | exact (Kd.R_reads' HO_163002.out).2.2 | (with_reducible refine Kd.C_alloc ?_ _) | (with_reducible refine Kd.C_drewN ?_ _) | (with_reducible refine Kd.C_drew ?_))); (case side2 => exact (Kd.R_reads' HO_163002.out).2.1); rintro e w39 ⟨rfl, hb⟩; refine ⟨_, rfl, ?_⟩; have n0_ := Aside0.mk (Kd.R_below (by (with_reducible repeat (first | apply Kd.R_alloc | apply Kd.R_drewN | apply Kd.R_drew)); exact HO_4.out) hb); have n1_ := Aside0.mk (Kd.R_below (by (with_reducible repeat (first | apply Kd.R_alloc | apply Kd.R_drewN | apply Kd.R_drew)); exact HO_163002.out) hb); have n2_ := Aside0.mk (blk_below (g := gb149) (o := .cells #[.int .i64 x150000_3, .int .i64 x150001_3, .slice none 0 0] 24 (0, 0)) (by (with_reducible repeat (first | refine blk_drewN ?_ _ | refine blk_drew ?_ | refine blk_alloc ?_ _)); exact BK149.out) hb); have n3_ := Aside0.mk (blk_below (g := gb162) (o := .cells #[.int .i64 (rd x4_1 0), .int .i64 (rd x4_1 1), .slice Ao38 x163002_3.length co38] 24 (0, 0)) (by (with_reducible repeat (first | refine blk_drewN ?_ _ | refine blk_drew ?_ | refine blk_alloc ?_ _)); exact BK162.out) hb); have n4_ := Aside0.mk (below_step (by repeat (first | (with_reducible first | exact HB.out | apply below_alloc | apply pw_below_drewN | apply below_drew1 | refine below_set ?_ GE149.out | refine below_set ?_ GE162.out) | exact HB.out)) hb); clear HO_4; clear HO_163002; clear BK149; clear BK162; clear HB; have HO_4 := n0_; have HO_163002 := n1_; have BK149 := n2_; have BK162 := n3_; have HB := n4_; clear n0_ n1_ n2_ n3_ n4_; (try clear hb); (try clear hb2); (try clear hk); (try clear hi); have hcz40_0 : w39.cell? ⟨gb162, 0, none⟩ = some (.int .i64 (rd x4_1 0)) := (blk_cell BK162.out 0).trans rfl; have hcz40_1 : w39.cell? ⟨gb162, 1, none⟩ = some (.int .i64 (rd x4_1 1)) := (blk_cell BK162.out 1).trans rfl; have hcz40_2 : w39.cell? ⟨gb162, 2, none⟩ = some (.slice Ao38 x163002_3.length co38) := (blk_cell BK162.out 2).trans rfl; have hfz40_0 := blk_frozen BK162.out 0; have hfz40_1 := blk_frozen BK162.out 1; have hfz40_2 := blk_frozen BK162.out 2; have hcz41_0 : w39.cell? ⟨gb149, 0, none⟩ = some (.int .i64 x150000_3) := (blk_cell BK149.out 0).trans rfl; have hcz41_1 : w39.cell? ⟨gb149, 1, none⟩ = some (.int .i64 x150001_3) := (blk_cell BK149.out 1).trans rfl; have hcz41_2 : w39.cell? ⟨gb149, 2, none⟩ = some (.slice none 0 0) := (blk_cell BK149.out 2).trans rfl; have hfz41_0 := blk_frozen BK149.out 0; have hfz41_1 := blk_frozen BK149.out 1; have hfz41_2 := blk_frozen BK149.out 2))
                          refine bodyPost_ret (results_ct rfl _ _ gb149 24 #[.int .i64 (rd x4_1 0), .int .i64 (rd x4_1 1), .slice Ao38 x163002_3.length co38] (0, 0) _ rfl (by (with_reducible repeat (first | refine blk_drewN ?_ _ | refine blk_drew ?_ | refine blk_alloc ?_ _)); refine blk_put (cs := #[.int .i64 (rd x4_1 0), .int .i64 (rd x4_1 1), .slice none 0 0]) ?_ 2 _ rfl; (with_reducible repeat (first | refine blk_drewN ?_ _ | refine blk_drew ?_ | refine blk_alloc ?_ _)); refine blk_put (cs := #[.int .i64 (rd x4_1 0), .int .i64 x150001_3, .slice none 0 0]) ?_ 1 _ rfl; (with_reducible repeat (first | refine blk_drewN ?_ _ | refine blk_drew ?_ | refine blk_alloc ?_ _)); refine blk_put (cs := #[.int .i64 x150000_3, .int .i64 x150001_3, .slice none 0 0]) ?_ 0 _ rfl; (with_reducible repeat (first | refine blk_drewN ?_ _ | refine blk_drew ?_ | refine blk_alloc ?_ _)); exact BK149.out) Try.underlying24 rfl (by kernel_rfl)) rfl ?_
                          exact ⟨_, by first | rfl | (simp [errW_none, errW_some] <;> rfl) | (simp [*, errW_none, errW_some] <;> rfl), by (with_reducible repeat (first | apply Kd.R_alloc | apply Kd.R_drewN | apply Kd.R_drew)); exact Kd.R_mono (Kd.R_far (p := ⟨gb149, 2, none⟩) (Kd.R_far (p := ⟨gb149, 1, none⟩) (Kd.R_far (p := ⟨gb149, 0, none⟩) (Kd.R_types HO_163002.out BK149.out (by decide)) (fun _ hk => hk.2) (.int .i64 (rd x4_1 0))) (fun _ hk => hk.2) (.int .i64 (rd x4_1 1))) (fun _ hk => hk.2) (.slice Ao38 x163002_3.length co38)) (fun _ hk => trivial), by repeat (first | (with_reducible first | exact HB.out | apply below_alloc | apply pw_below_drewN | apply below_drew1 | refine below_set ?_ GE149.out | refine below_set ?_ GE162.out) | exact HB.out)⟩
                        · rw [if_neg c35] at H
                          have c35b0 : (t168 == 0) = false := beq_eq_false_iff_ne.mpr c35
                          have c35b1 : (t168 != 0) = true := bne_iff_ne.mpr c35
                          simp only [Option.some.injEq, Prod.mk.injEq] at H
                          obtain ⟨rfl, rfl, rfl, rfl⟩ := H
                          have hnb42 := NB162_149.out
                          have hnc42 := NB149_162.out
                          have hcz43_0 : wr.cell? ⟨gb162, 0, none⟩ = some (.int .i64 (rd x4_1 0)) := (blk_cell BK162.out 0).trans rfl
                          have hcz43_1 : wr.cell? ⟨gb162, 1, none⟩ = some (.int .i64 (rd x4_1 1)) := (blk_cell BK162.out 1).trans rfl
                          have hcz43_2 : wr.cell? ⟨gb162, 2, none⟩ = some (u163002) := (blk_cell BK162.out 2).trans rfl
                          have hfz43_0 := blk_frozen BK162.out 0
                          have hfz43_1 := blk_frozen BK162.out 1
                          have hfz43_2 := blk_frozen BK162.out 2
                          obtain ⟨Ao44, co44, eo44⟩ := Kd.R_slice HO_163002.out
                          subst eo44
                          go_wp2_with (first | ((with_reducible refine gate_callee (f := 18) rfl ?_); refine goesL_ (some 82) rfl rfl Try.func18 (by kernel_rfl) rfl #[.agg #[.int .i64 (rd x4_1 0), .int .i64 (rd x4_1 1), .slice Ao44 x163002_3.length co44]] rfl (by (try simp only [List.map_toArray, List.map_cons, List.map_nil]); first | done | rfl | (simp only [List.length_drop, List.length_take]; rfl)) ?_; (with_reducible refine (lookoutref30_Check.calls k3 (rd x4_1 0) (rd x4_1 1) _ _ x163002_3 t168 _ ?side1 ?side2 A34.out).mono ?_); (case side1 => repeat (first | exact (Kd.R_reads' HO_163002.out).2.2 | (with_reducible refine Kd.C_alloc ?_ _) | (with_reducible refine Kd.C_drewN ?_ _) | (with_reducible refine Kd.C_drew ?_))); (case side2 => exact (Kd.R_reads' HO_163002.out).2.1); rintro e w45 ⟨rfl, hb⟩; refine ⟨_, rfl, ?_⟩; have n0_ := Aside0.mk (Kd.R_below (by (with_reducible repeat (first | apply Kd.R_alloc | apply Kd.R_drewN | apply Kd.R_drew)); exact HO_4.out) hb); have n1_ := Aside0.mk (Kd.R_below (by (with_reducible repeat (first | apply Kd.R_alloc | apply Kd.R_drewN | apply Kd.R_drew)); exact HO_163002.out) hb); have n2_ := Aside0.mk (blk_below (g := gb149) (o := .cells #[.int .i64 x150000_3, .int .i64 x150001_3, .slice none 0 0] 24 (0, 0)) (by (with_reducible repeat (first | refine blk_drewN ?_ _ | refine blk_drew ?_ | refine blk_alloc ?_ _)); exact BK149.out) hb); have n3_ := Aside0.mk (blk_below (g := gb162) (o := .cells #[.int .i64 (rd x4_1 0), .int .i64 (rd x4_1 1), .slice Ao44 x163002_3.length co44] 24 (0, 0)) (by (with_reducible repeat (first | refine blk_drewN ?_ _ | refine blk_drew ?_ | refine blk_alloc ?_ _)); exact BK162.out) hb); have n4_ := Aside0.mk (below_step (by repeat (first | (with_reducible first | exact HB.out | apply below_alloc | apply pw_below_drewN | apply below_drew1 | refine below_set ?_ GE149.out | refine below_set ?_ GE162.out) | exact HB.out)) hb); clear HO_4; clear HO_163002; clear BK149; clear BK162; clear HB; have HO_4 := n0_; have HO_163002 := n1_; have BK149 := n2_; have BK162 := n3_; have HB := n4_; clear n0_ n1_ n2_ n3_ n4_; (try clear hb); (try clear hb2); (try clear hk); (try clear hi); have hcz46_0 : w45.cell? ⟨gb149, 0, none⟩ = some (.int .i64 x150000_3) := (blk_cell BK149.out 0).trans rfl; have hcz46_1 : w45.cell? ⟨gb149, 1, none⟩ = some (.int .i64 x150001_3) := (blk_cell BK149.out 1).trans rfl; have hcz46_2 : w45.cell? ⟨gb149, 2, none⟩ = some (.slice none 0 0) := (blk_cell BK149.out 2).trans rfl; have hfz46_0 := blk_frozen BK149.out 0; have hfz46_1 := blk_frozen BK149.out 1; have hfz46_2 := blk_frozen BK149.out 2))
                          refine bodyPost_ret (results_ct rfl _ _ gb149 24 #[.int .i64 0, .int .i64 0, .slice none 0 0] (0, 0) _ rfl (by (with_reducible repeat (first | refine blk_drewN ?_ _ | refine blk_drew ?_ | refine blk_alloc ?_ _)); refine blk_put (cs := #[.int .i64 0, .int .i64 0, .slice none 0 0]) ?_ 2 _ rfl; (with_reducible repeat (first | refine blk_drewN ?_ _ | refine blk_drew ?_ | refine blk_alloc ?_ _)); refine blk_put (cs := #[.int .i64 0, .int .i64 x150001_3, .slice none 0 0]) ?_ 1 _ rfl; (with_reducible repeat (first | refine blk_drewN ?_ _ | refine blk_drew ?_ | refine blk_alloc ?_ _)); refine blk_put (cs := #[.int .i64 x150000_3, .int .i64 x150001_3, .slice none 0 0]) ?_ 0 _ rfl; (with_reducible repeat (first | refine blk_drewN ?_ _ | refine blk_drew ?_ | refine blk_alloc ?_ _)); exact BK149.out) Try.underlying24 rfl (by kernel_rfl)) rfl ?_
                          exact ⟨_, by first | rfl | (simp [errW_none, errW_some] <;> rfl) | (simp [*, errW_none, errW_some] <;> rfl), by first | exact Kd.R_nil _ _ _ _ _ | exact Kd.N_nil _ _ _ _ _ | exact Kd.V_nil _ _ _ _ _ | exact Kd.Q_nil _ _ _ _ _ | exact Kd.S_nil _ _ _ _ _, by repeat (first | (with_reducible first | exact HB.out | apply below_alloc | apply pw_below_drewN | apply below_drew1 | refine below_set ?_ GE149.out | refine below_set ?_ GE162.out) | exact HB.out)⟩
                · rw [if_neg c16] at H
                  exact absurd H (by simp)
              · rw [if_neg c15] at H
                exact absurd H (by simp)
      · rw [if_neg c5] at H
        have c5b0 : (x5_1.toList == ([] : List UInt8)) = false := beq_eq_false_iff_ne.mpr c5
        have c5b1 : (x5_1.toList != ([] : List UInt8)) = true := bne_iff_ne.mpr c5
        replace H := Option.bind_eq_some_iff.mp H
        obtain ⟨⟨t153, t154, t155⟩, A470, H⟩ := H
        replace H : (if t155 = 0 then (if x4_1.length < 17592186044416 then (if 0 ≤ t154 then (if t154 ≤ (x5_1.size : Int) then (lookoutref30_Decode.l0 k1 (x4_1 ++ [t153]) (x5_1.extract (t154 : Int).toNat x5_1.size)) else (none)) else (none)) else (none)) else (some (0, 0, ([] : List Int), 12))) = some (r1, r2, r3, r4) := H
        have A47 := Aside0.mk A470
        clear A470
        by_cases c48 : t155 = 0
        · rw [if_pos c48] at H
          have c48b0 : (t155 == 0) = true := beq_iff_eq.mpr c48
          have c48b1 : (t155 != 0) = false := bne_eq_false_iff_eq.mpr c48
          clear c48
          by_cases c49 : x4_1.length < 17592186044416
          · rw [if_pos c49] at H
            have LMc49 := Aside0.mk c49
            clear c49
            obtain ⟨y156, hy156⟩ : ∃ y_ : List Int, y_ = (x4_1 ++ [t153]) := ⟨_, rfl⟩
            replace H : (if 0 ≤ t154 then (if t154 ≤ (x5_1.size : Int) then (lookoutref30_Decode.l0 k1 y156 (x5_1.extract (t154 : Int).toNat x5_1.size)) else (none)) else (none)) = some (r1, r2, r3, r4) := by first | (rw [hy156]; with_reducible exact H) | (have H2_ := (Option.bind_some _ _).symm.trans H; rw [hy156]; with_reducible exact H2_) | (have H2_ := (Option.bind_some _ _).symm.trans H; with_reducible exact H2_) | with_reducible exact H | (rw [hy156]; exact H) | exact H
            have Ny156 := Aside0.mk hy156
            clear hy156
            by_cases c50 : 0 ≤ t154
            · rw [if_pos c50] at H
              have c50b0 := eq_true c50
              have c50b1 : decide (0 ≤ t154) = true := decide_eq_true c50
              clear c50
              by_cases c51 : t154 ≤ (x5_1.size : Int)
              · rw [if_pos c51] at H
                have c51b0 := eq_true c51
                have c51b1 : decide (t154 ≤ (x5_1.size : Int)) = true := decide_eq_true c51
                clear c51
                have H' := Aside0.mk H
                clear H
                go_wp2_with (first | ((with_reducible refine gate_callee (f := 53) rfl ?_); refine goesL_ (some 18) rfl rfl Try.func53 (by kernel_rfl) rfl #[.string x5_1] rfl (by (try simp only [List.map_toArray, List.map_cons, List.map_nil]); first | done | rfl | (simp only [List.length_drop, List.length_take]; rfl)) ?_; (with_reducible refine (lookoutref01_Read.calls k1 x5_1 t153 t154 t155 _ A47.out).mono ?_); rintro e w' ⟨rfl, ⟨nd, rfl⟩⟩; refine ⟨_, rfl, ?_⟩) | ((with_reducible refine gate_builtin (b := .append) (xs := #[.tmp 25, .tmp 27]) rfl ?_); (try (refine gate_guard (by rfl) ?_; dsimp only)); at_builtin; refine Kd.R_append (Kd.int .i64) (w0 := w) w.heap.size rfl (.tmp 25) (.tmp 27) 22 3 (.int .i64 0) 8 rfl Try.underlying22 info3 rfl (by decide) (by omega) u4 x4_1 t153 [.int .i64 t153] (fun _ => True) (fun _ => False) rfl rfl ?aP (fun _ hk => hk.elim) ?aF ?aO ?aB ?aS ?aL ?_; (case aP => exact rfl); (case aB => exact (by repeat (first | (with_reducible first | exact HB.out | apply below_alloc | apply pw_below_drewN | apply below_drew1 | refine below_set ?_ GE149.out) | exact HB.out))); (case aF => exact (fun _ _ => trivial)); (case aO => exact (by (with_reducible repeat (first | apply Kd.R_alloc | apply Kd.R_drewN | apply Kd.R_drew)); exact HO_4.out)); (case aS => exact (below_size (by repeat (first | (with_reducible first | exact HB.out | apply below_alloc | apply pw_below_drewN | apply below_drew1 | refine below_set ?_ GE149.out) | exact HB.out)))); (case aL => have := LMc49.out; omega); intro v157 w52 ho hb hg hat; rw [← Ny156.out] at ho; have n0_ := Aside0.mk (blk_grown (g := gb149) (o := .cells #[.int .i64 x150000_1, .int .i64 x150001_1, .slice none 0 0] 24 (0, 0)) (by (with_reducible repeat (first | refine blk_drewN ?_ _ | refine blk_drew ?_ | refine blk_alloc ?_ _)); exact BK149.out) hg (Kd.R_ne HO_4.out BK149.out (by decide))); have n1_ := Aside0.mk (hb); have n2_ := Aside0.mk (ho); clear BK149; clear HB; clear HO_4; have BK149 := n0_; have HB := n1_; have HO158 := n2_; clear n0_ n1_ n2_; clear ho hb hg hat))
                go_roundg k1
                case measure => have := HK1.out; omega
                case rel => exact ⟨(y156), (x5_1.extract (t154 : Int).toNat x5_1.size), (x150000_1), (x150001_1), (by first | rfl | (simp; done) | (simp [*]; done)), H', ⟨by have := HK1.out; omega⟩, ⟨by (with_reducible repeat (first | apply Kd.R_alloc | apply Kd.R_drewN | apply Kd.R_drew)); exact HO158.out⟩, ⟨by (with_reducible repeat (first | refine blk_drewN ?_ _ | refine blk_drew ?_ | refine blk_alloc ?_ _)); exact BK149.out⟩, ⟨by repeat (first | (with_reducible first | exact HB.out | apply below_alloc | apply pw_below_drewN | apply below_drew1 | refine below_set ?_ GE149.out) | exact HB.out)⟩⟩
              · rw [if_neg c51] at H
                exact absurd H (by simp)
            · rw [if_neg c50] at H
              exact absurd H (by simp)
          · rw [if_neg c49] at H
            exact absurd H (by simp)
        · rw [if_neg c48] at H
          have c48b0 : (t155 == 0) = false := beq_eq_false_iff_ne.mpr c48
          have c48b1 : (t155 != 0) = true := bne_iff_ne.mpr c48
          simp only [Option.some.injEq, Prod.mk.injEq] at H
          obtain ⟨rfl, rfl, rfl, rfl⟩ := H
          go_wp2_with (first | ((with_reducible refine gate_callee (f := 53) rfl ?_); refine goesL_ (some 18) rfl rfl Try.func53 (by kernel_rfl) rfl #[.string x5_1] rfl (by (try simp only [List.map_toArray, List.map_cons, List.map_nil]); first | done | rfl | (simp only [List.length_drop, List.length_take]; rfl)) ?_; (with_reducible refine (lookoutref01_Read.calls k1 x5_1 t153 t154 t155 _ A47.out).mono ?_); rintro e w' ⟨rfl, ⟨nd, rfl⟩⟩; refine ⟨_, rfl, ?_⟩; (try (rw [drewN_self wr]; generalize hq_ : World.drewN wr _ = wr; have n0_ : Aside0 (Kd.R (Kd.int .i64) 3 wr w.heap.size (fun _ => True) u4 x4_1) := ⟨by rw [← hq_]; exact (by (with_reducible repeat (first | apply Kd.R_alloc | apply Kd.R_drewN | apply Kd.R_drew)); exact HO_4.out)⟩; have n1_ : Aside0 (wr.heap[gb149]? = some (.cells #[.int .i64 x150000_1, .int .i64 x150001_1, .slice none 0 0] 24 (0, 0))) := ⟨by rw [← hq_]; exact (by (with_reducible repeat (first | refine blk_drewN ?_ _ | refine blk_drew ?_ | refine blk_alloc ?_ _)); exact BK149.out)⟩; have n2_ : Aside0 (Below w.heap.size w wr) := ⟨by rw [← hq_]; exact (by repeat (first | (with_reducible first | exact HB.out | apply below_alloc | apply pw_below_drewN | apply below_drew1 | refine below_set ?_ GE149.out) | exact HB.out))⟩; clear HO_4 BK149 HB hq_; have HO_4 := n0_; have BK149 := n1_; have HB := n2_; clear n0_ n1_ n2_)); have hcz53_0 : wr.cell? ⟨gb149, 0, none⟩ = some (.int .i64 x150000_1) := (blk_cell BK149.out 0).trans rfl; have hcz53_1 : wr.cell? ⟨gb149, 1, none⟩ = some (.int .i64 x150001_1) := (blk_cell BK149.out 1).trans rfl; have hcz53_2 : wr.cell? ⟨gb149, 2, none⟩ = some (.slice none 0 0) := (blk_cell BK149.out 2).trans rfl; have hfz53_0 := blk_frozen BK149.out 0; have hfz53_1 := blk_frozen BK149.out 1; have hfz53_2 := blk_frozen BK149.out 2))
          refine bodyPost_ret (results_ct rfl _ _ gb149 24 #[.int .i64 0, .int .i64 0, .slice none 0 0] (0, 0) _ rfl (by (with_reducible repeat (first | refine blk_drewN ?_ _ | refine blk_drew ?_ | refine blk_alloc ?_ _)); refine blk_put (cs := #[.int .i64 0, .int .i64 0, .slice none 0 0]) ?_ 2 _ rfl; (with_reducible repeat (first | refine blk_drewN ?_ _ | refine blk_drew ?_ | refine blk_alloc ?_ _)); refine blk_put (cs := #[.int .i64 0, .int .i64 x150001_1, .slice none 0 0]) ?_ 1 _ rfl; (with_reducible repeat (first | refine blk_drewN ?_ _ | refine blk_drew ?_ | refine blk_alloc ?_ _)); refine blk_put (cs := #[.int .i64 x150000_1, .int .i64 x150001_1, .slice none 0 0]) ?_ 0 _ rfl; (with_reducible repeat (first | refine blk_drewN ?_ _ | refine blk_drew ?_ | refine blk_alloc ?_ _)); exact BK149.out) Try.underlying24 rfl (by kernel_rfl)) rfl ?_
          exact ⟨_, by first | rfl | (simp [errW_none, errW_some] <;> rfl) | (simp [*, errW_none, errW_some] <;> rfl), by first | exact Kd.R_nil _ _ _ _ _ | exact Kd.N_nil _ _ _ _ _ | exact Kd.V_nil _ _ _ _ _ | exact Kd.Q_nil _ _ _ _ _ | exact Kd.S_nil _ _ _ _ _, by repeat (first | (with_reducible first | exact HB.out | apply below_alloc | apply pw_below_drewN | apply below_drew1 | refine below_set ?_ GE149.out) | exact HB.out)⟩

end Go.Proofs.Ythblifjeecdhcaa.E
