/- Printed by a program of this session: functions of the law's Go code as Lean functions, and that the Go code computes them. No condition beyond those in the statements. -/
import Derived.Test.YtfklecicddpcjaaPx0
import Derived.Test.YtfklecicddpcjaaPx34
namespace Go.Proofs.Ytfklecicddpcjaa.P
open Go.RowKit Go.Proofs.YtfklecicddpcjaaW.PrintWords Go.Proofs.YtfklecicddpcjaaW.PrintLast Go.Proofs.YtfklecicddpcjaaW.PrintMore Go.Proofs.Ytfklecicddpcjaa.Hand Go.Proofs.Ytfklecicddpcjaa.A
attribute [local go_sem] max2_int min2_int max_two min_two max_three min_three max_four min_four   -- for this text's walks alone
set_option linter.unusedVariables false
set_option linter.unusedSimpArgs false

/-! ### lookoutlaw10_DictcolLong: function 4 -/
mutual
def lookoutlaw10_DictcolLong.j0 : Nat → List ByteArray → List Int → List ByteArray → Bool → Option (Bool)
  | 0, _, _, _, _ => none
  | k + 1, x0, x1, x5, x23 => if x23 = true then ((lookoutlaw10_awake.f k).bind fun t450 => (some t450)) else (lookoutlaw10_DictcolLong.l0 k x0 x5 x1 (x1.length : Int) 0)
def lookoutlaw10_DictcolLong.l0 : Nat → List ByteArray → List ByteArray → List Int → Int → Int → Option (Bool)
  | 0, _, _, _, _, _ => none
  | k + 1, x0, x5, x25, x26, x27 => if x27 < x26 then (if 0 ≤ x27 then (if x27 < (x25.length : Int) then (lookoutlaw10_DictcolLong.l1 k x0 x5 x27 x25 x26 x27 (Int.tmod (wrap64 (rd x25 x27)) 2101) 0) else (none)) else (none)) else ((dictcol_Encode.f k x5).bind fun bt451 => ((lookoutref10_Encode.f k x5).bind fun bt453 => (if bt451.1.toList = bt453.1.toList then (if bt451.2 = bt453.2 then ((lookoutlaw10_awake.f k).bind fun t455 => (some t455)) else (none)) else (none))))
def lookoutlaw10_DictcolLong.l1 : Nat → List ByteArray → List ByteArray → Int → List Int → Int → Int → Int → Int → Option (Bool)
  | 0, _, _, _, _, _, _, _, _ => none
  | k + 1, x0, x5, x6, x25, x26, x27, x34, x35 => if x35 < x34 then (if (x0.length : Int) > 0 then (if (x5.length : Int) < 2100 then (if (x0.length : Int) = 0 then (none) else (if 0 ≤ (Int.tmod x6 (x0.length : Int)) then (if (Int.tmod x6 (x0.length : Int)) < (x0.length : Int) then (if x5.length < 8796093022208 then (lookoutlaw10_DictcolLong.l1 k x0 (x5 ++ [rdOf ByteArray.empty x0 (Int.tmod x6 (x0.length : Int))]) x6 x25 x26 x27 x34 (wrap64 (x35 + 1))) else (none)) else (none)) else (none))) else (lookoutlaw10_DictcolLong.l1 k x0 x5 x6 x25 x26 x27 x34 (wrap64 (x35 + 1)))) else (lookoutlaw10_DictcolLong.l1 k x0 x5 x6 x25 x26 x27 x34 (wrap64 (x35 + 1)))) else (lookoutlaw10_DictcolLong.l0 k x0 x5 x25 x26 (wrap64 (x27 + 1)))
end
def lookoutlaw10_DictcolLong.f (k : Nat) (l0 : List ByteArray) (l1 : List Int) : Option (Bool) := if (l0.length : Int) > 4 then (lookoutlaw10_DictcolLong.j0 k l0 l1 ([] : List ByteArray) true) else (if (l1.length : Int) > 12 then (lookoutlaw10_DictcolLong.j0 k l0 l1 ([] : List ByteArray) true) else ((contains_dl.f l0).bind fun t449 => (lookoutlaw10_DictcolLong.j0 k l0 l1 ([] : List ByteArray) t449)))
theorem lookoutlaw10_DictcolLong.mono_l : ∀ k, (∀ y0 y1 y2 y3, LeO (lookoutlaw10_DictcolLong.j0 k y0 y1 y2 y3) (lookoutlaw10_DictcolLong.j0 (k + 1) y0 y1 y2 y3)) ∧ (∀ y0 y1 y2 y3 y4, LeO (lookoutlaw10_DictcolLong.l0 k y0 y1 y2 y3 y4) (lookoutlaw10_DictcolLong.l0 (k + 1) y0 y1 y2 y3 y4)) ∧ (∀ y0 y1 y2 y3 y4 y5 y6 y7, LeO (lookoutlaw10_DictcolLong.l1 k y0 y1 y2 y3 y4 y5 y6 y7) (lookoutlaw10_DictcolLong.l1 (k + 1) y0 y1 y2 y3 y4 y5 y6 y7))
  | 0 => ⟨fun _ _ _ _ r h => by simp [lookoutlaw10_DictcolLong.j0] at h, fun _ _ _ _ _ r h => by simp [lookoutlaw10_DictcolLong.l0] at h, fun _ _ _ _ _ _ _ _ r h => by simp [lookoutlaw10_DictcolLong.l1] at h⟩
  | k + 1 => by
    obtain ⟨ih0, ih1, ih2⟩ := lookoutlaw10_DictcolLong.mono_l k
    refine ⟨?_, ?_, ?_⟩
    · intro y0 y1 y2 y3
      unfold lookoutlaw10_DictcolLong.j0
      repeat' first
      | (with_reducible exact ih0 _ _ _ _)
      | (with_reducible exact ih1 _ _ _ _ _)
      | (with_reducible exact ih2 _ _ _ _ _ _ _ _)
      | (with_reducible exact dictcol_Encode.mono _ _)
      | (with_reducible exact lookoutlaw10_awake.mono _)
      | (with_reducible exact lookoutref10_Encode.mono _ _)
      | (with_reducible exact LeO.refl _)
      | (with_reducible exact LeO.none _)
      | (with_reducible refine LeO.ite ?_ ?_)
      | (with_reducible refine LeO.bind ?_ (fun _ => ?_))
      | exact ih0 _ _ _ _
      | exact ih1 _ _ _ _ _
      | exact ih2 _ _ _ _ _ _ _ _
      | exact dictcol_Encode.mono _ _
      | exact lookoutlaw10_awake.mono _
      | exact lookoutref10_Encode.mono _ _
      | exact LeO.none _
      | refine LeO.ite ?_ ?_
      | refine LeO.bind ?_ (fun _ => ?_)
    · intro y0 y1 y2 y3 y4
      unfold lookoutlaw10_DictcolLong.l0
      repeat' first
      | (with_reducible exact ih0 _ _ _ _)
      | (with_reducible exact ih1 _ _ _ _ _)
      | (with_reducible exact ih2 _ _ _ _ _ _ _ _)
      | (with_reducible exact dictcol_Encode.mono _ _)
      | (with_reducible exact lookoutlaw10_awake.mono _)
      | (with_reducible exact lookoutref10_Encode.mono _ _)
      | (with_reducible exact LeO.refl _)
      | (with_reducible exact LeO.none _)
      | (with_reducible refine LeO.ite ?_ ?_)
      | (with_reducible refine LeO.bind ?_ (fun _ => ?_))
      | exact ih0 _ _ _ _
      | exact ih1 _ _ _ _ _
      | exact ih2 _ _ _ _ _ _ _ _
      | exact dictcol_Encode.mono _ _
      | exact lookoutlaw10_awake.mono _
      | exact lookoutref10_Encode.mono _ _
      | exact LeO.none _
      | refine LeO.ite ?_ ?_
      | refine LeO.bind ?_ (fun _ => ?_)
    · intro y0 y1 y2 y3 y4 y5 y6 y7
      unfold lookoutlaw10_DictcolLong.l1
      repeat' first
      | (with_reducible exact ih0 _ _ _ _)
      | (with_reducible exact ih1 _ _ _ _ _)
      | (with_reducible exact ih2 _ _ _ _ _ _ _ _)
      | (with_reducible exact dictcol_Encode.mono _ _)
      | (with_reducible exact lookoutlaw10_awake.mono _)
      | (with_reducible exact lookoutref10_Encode.mono _ _)
      | (with_reducible exact LeO.refl _)
      | (with_reducible exact LeO.none _)
      | (with_reducible refine LeO.ite ?_ ?_)
      | (with_reducible refine LeO.bind ?_ (fun _ => ?_))
      | exact ih0 _ _ _ _
      | exact ih1 _ _ _ _ _
      | exact ih2 _ _ _ _ _ _ _ _
      | exact dictcol_Encode.mono _ _
      | exact lookoutlaw10_awake.mono _
      | exact lookoutref10_Encode.mono _ _
      | exact LeO.none _
      | refine LeO.ite ?_ ?_
      | refine LeO.bind ?_ (fun _ => ?_)
theorem lookoutlaw10_DictcolLong.mono : ∀ a0 a1 k, LeO (lookoutlaw10_DictcolLong.f k a0 a1) (lookoutlaw10_DictcolLong.f (k + 1) a0 a1) := by
  intro a0 a1 k
  obtain ⟨ih0, ih1, ih2⟩ := lookoutlaw10_DictcolLong.mono_l k
  unfold lookoutlaw10_DictcolLong.f
  repeat' first
      | (with_reducible exact ih0 _ _ _ _)
      | (with_reducible exact ih1 _ _ _ _ _)
      | (with_reducible exact ih2 _ _ _ _ _ _ _ _)
      | (with_reducible exact dictcol_Encode.mono _ _)
      | (with_reducible exact lookoutlaw10_awake.mono _)
      | (with_reducible exact lookoutref10_Encode.mono _ _)
      | (with_reducible exact LeO.refl _)
      | (with_reducible exact LeO.none _)
      | (with_reducible refine LeO.ite ?_ ?_)
      | (with_reducible refine LeO.bind ?_ (fun _ => ?_))
      | exact ih0 _ _ _ _
      | exact ih1 _ _ _ _ _
      | exact ih2 _ _ _ _ _ _ _ _
      | exact dictcol_Encode.mono _ _
      | exact lookoutlaw10_awake.mono _
      | exact lookoutref10_Encode.mono _ _
      | exact LeO.none _
      | refine LeO.ite ?_ ?_
      | refine LeO.bind ?_ (fun _ => ?_)
set_option maxHeartbeats 8000000 in
set_option maxRecDepth 100000 in
theorem lookoutlaw10_DictcolLong.calls (k : Nat) (A0 : Option Addr) (c0 : Nat) (l0 : List ByteArray) (A1 : Option Addr) (c1 : Nat) (l1 : List Int) (r : Bool) (w : World) (hr0 : Kd.C Kd.string w A0 l0.length l0) (hc0 : l0.length ≤ c0) (hr1 : Kd.C (Kd.int .u16) w A1 l1.length l1) (hc1 : l1.length ≤ c1) (h : lookoutlaw10_DictcolLong.f k l0 l1 = some r) :
    Calls Try.prog 4 #[.slice A0 l0.length c0, .slice A1 l1.length c1] w fun e w' => e = .returned (.bool r) ∧ Below w.heap.size w w' := by
  have HR0 := Aside0.mk hr0
  have HC0 := Aside0.mk hc0
  clear hr0 hc0
  have HR1 := Aside0.mk hr1
  have HC1 := Aside0.mk hc1
  clear hr1 hc1
  have HB := Aside0.mk (Below.refl w.heap.size w)
  have H : (if (l0.length : Int) > 4 then (lookoutlaw10_DictcolLong.j0 k l0 l1 ([] : List ByteArray) true) else (if (l1.length : Int) > 12 then (lookoutlaw10_DictcolLong.j0 k l0 l1 ([] : List ByteArray) true) else ((contains_dl.f l0).bind fun t449 => (lookoutlaw10_DictcolLong.j0 k l0 l1 ([] : List ByteArray) t449)))) = some r := h
  clear h
  have HC3 := Aside0.mk H
  clear H
  go_enter Try.func4, Try.ntmps4
  go_upto_region 2 with (fail)
  go_cut [23] (fun v23 wc => ∃ (kq : Nat) (x23_2 : Bool), v23 = .bool x23_2 ∧ Aside0 (lookoutlaw10_DictcolLong.j0 kq l0 l1 ([] : List ByteArray) x23_2 = some r) ∧ Aside0 (kq ≤ k) ∧ Aside0 (Kd.R Kd.string 9 wc w.heap.size (fun _ => True) (.slice none 0 0) ([] : List ByteArray)) ∧ Aside0 (Below w.heap.size w wc))
  case first =>
    have H := HC3.out
    clear HC3
    by_cases c4 : (l0.length : Int) > 4
    · rw [if_pos c4] at H
      have c4b0 : decide (4 < (l0.length : Int)) = true := decide_eq_true c4
      have c4b1 : decide (4 < l0.length) = true := decide_eq_true (by omega)
      clear c4
      (first | rw [c4b0] | (simp only [i64_w, i32_w]; rw [c4b0]) | rw [c4b1] | (simp only [i64_w, i32_w]; rw [c4b1]) | skip)
      have H' := Aside0.mk H
      clear H
      go_wp2
      go_meet
      case rel => exact ⟨_, (true), (by first | rfl | (simp; done) | (simp [*]; done)), H', ⟨by first | omega | exact Nat.le_refl _⟩, ⟨by first | exact Kd.R_nil _ _ _ _ _ | exact Kd.N_nil _ _ _ _ _ | exact Kd.V_nil _ _ _ _ _ | exact Kd.Q_nil _ _ _ _ _ | exact Kd.S_nil _ _ _ _ _⟩, ⟨by repeat (first | (with_reducible first | exact HB.out | apply below_alloc | apply pw_below_drewN | apply below_drew1) | exact HB.out)⟩⟩
    · rw [if_neg c4] at H
      have c4b0 : decide (4 < (l0.length : Int)) = false := decide_eq_false c4
      have c4b1 : decide (4 < l0.length) = false := decide_eq_false (by omega)
      clear c4
      (first | rw [c4b0] | (simp only [i64_w, i32_w]; rw [c4b0]) | rw [c4b1] | (simp only [i64_w, i32_w]; rw [c4b1]) | skip)
      by_cases c5 : (l1.length : Int) > 12
      · rw [if_pos c5] at H
        have c5b0 : decide (12 < (l1.length : Int)) = true := decide_eq_true c5
        have c5b1 : decide (12 < l1.length) = true := decide_eq_true (by omega)
        clear c5
        have H' := Aside0.mk H
        clear H
        go_wp2
        go_meet
        case rel => exact ⟨_, (true), (by first | rfl | (simp; done) | (simp [*]; done)), H', ⟨by first | omega | exact Nat.le_refl _⟩, ⟨by first | exact Kd.R_nil _ _ _ _ _ | exact Kd.N_nil _ _ _ _ _ | exact Kd.V_nil _ _ _ _ _ | exact Kd.Q_nil _ _ _ _ _ | exact Kd.S_nil _ _ _ _ _⟩, ⟨by repeat (first | (with_reducible first | exact HB.out | apply below_alloc | apply pw_below_drewN | apply below_drew1) | exact HB.out)⟩⟩
      · rw [if_neg c5] at H
        have c5b0 : decide (12 < (l1.length : Int)) = false := decide_eq_false c5
        have c5b1 : decide (12 < l1.length) = false := decide_eq_false (by omega)
        clear c5
        replace H := Option.bind_eq_some_iff.mp H
        obtain ⟨t449, A60, H⟩ := H
        replace H : (lookoutlaw10_DictcolLong.j0 k l0 l1 ([] : List ByteArray) t449) = some r := H
        have A6 := Aside0.mk A60
        clear A60
        have H' := Aside0.mk H
        clear H
        go_wp2_with (first | (go_at_call 15; (with_reducible refine (contains_dl.calls _ _ l0  t449 _ ?side1 ?side2 A6.out).mono ?_); (case side1 => repeat (first | exact (Kd.C_below HR0.out HB.out) | (with_reducible refine Kd.C_alloc ?_ _) | (with_reducible refine Kd.C_drewN ?_ _) | (with_reducible refine Kd.C_drew ?_))); (case side2 => exact HC0.out); rintro e w' ⟨rfl, ⟨nd, rfl⟩⟩))
        go_meet
        case rel => exact ⟨_, (t449), (by first | rfl | (simp; done) | (simp [*]; done)), H', ⟨by first | omega | exact Nat.le_refl _⟩, ⟨by first | exact Kd.R_nil _ _ _ _ _ | exact Kd.N_nil _ _ _ _ _ | exact Kd.V_nil _ _ _ _ _ | exact Kd.Q_nil _ _ _ _ _ | exact Kd.S_nil _ _ _ _ _⟩, ⟨by repeat (first | (with_reducible first | exact HB.out | apply below_alloc | apply pw_below_drewN | apply below_drew1) | exact HB.out)⟩⟩
  case rest =>
    clear HC3
    try clear c1
    try clear p2
    try clear c4
    try clear c4b0
    try clear c4b1
    try clear c5
    try clear c5b0
    try clear c5b1
    obtain ⟨kq, x23_2, rfl, HA, HJ2, HO_5, HB⟩ := hcut
    cases kq with
    | zero => exact absurd HA.out (by simp [lookoutlaw10_DictcolLong.j0])
    | succ kj2 =>
      have H := HA.out
      clear HA
      simp only [lookoutlaw10_DictcolLong.j0] at H
      by_cases c7 : x23_2 = true
      · subst c7
        have H1 : ((lookoutlaw10_awake.f kj2).bind fun t450 => (some t450)) = some r := by rw [if_pos rfl] at H; exact H
        clear H
        have H := H1
        clear H1
        replace H := Option.bind_eq_some_iff.mp H
        obtain ⟨t450, A80, H⟩ := H
        replace H : (some t450) = some r := H
        have A8 := Aside0.mk A80
        clear A80
        obtain rfl := Option.some.inj H
        go_wp2_with (first | ((with_reducible refine gate_callee (f := 12) rfl ?_); refine goesL_ (some 24) rfl rfl Try.func12 (by kernel_rfl) rfl #[] rfl (by (try simp only [List.map_toArray, List.map_cons, List.map_nil]); first | done | rfl | (simp only [List.length_drop, List.length_take]; rfl)) ?_; (with_reducible refine (lookoutlaw10_awake.calls kj2  t450 _ A8.out).mono ?_); rintro e w9 ⟨rfl, hb⟩; refine ⟨_, rfl, ?_⟩; have n0_ := Aside0.mk (Kd.R_below (by (with_reducible repeat (first | apply Kd.R_alloc | apply Kd.R_drewN | apply Kd.R_drew)); exact HO_5.out) hb); have n1_ := Aside0.mk (below_step (by repeat (first | (with_reducible first | exact HB.out | apply below_alloc | apply pw_below_drewN | apply below_drew1) | exact HB.out)) hb); clear HO_5; clear HB; have HO_5 := n0_; have HB := n1_; clear n0_ n1_; (try clear hb); (try clear hb2); (try clear hk); (try clear hi)))
        go_ret
        exact ⟨by first | rfl | (simp [errW_none, errW_some] <;> rfl) | (simp [*, errW_none, errW_some] <;> rfl), by repeat (first | (with_reducible first | exact HB.out | apply below_alloc | apply pw_below_drewN | apply below_drew1) | exact HB.out)⟩
      · replace c7 := Bool.eq_false_iff.mpr c7
        subst c7
        have H1 : (lookoutlaw10_DictcolLong.l0 kj2 l0 ([] : List ByteArray) l1 (l1.length : Int) 0) = some r := by rw [if_neg (show ¬ (false = true) by decide)] at H; exact H
        clear H
        have H := H1
        clear H1
        have H' := Aside0.mk H
        clear H
        go_wp2
        go_loopg [5, 27] kj2 (fun kq v5 v27 w' => ∃ (x5_2 : List ByteArray) (x27_2 : Int), v27 = .int .i64 x27_2 ∧ Aside0 (lookoutlaw10_DictcolLong.l0 kq l0 x5_2 l1 (l1.length : Int) x27_2 = some r) ∧ Aside0 (kq ≤ kj2) ∧ Aside0 (Kd.R Kd.string 9 w' w.heap.size (fun _ => True) v5 x5_2) ∧ Aside0 (Below w.heap.size w w'))
        case atStart => exact ⟨(([] : List ByteArray)), (0), (by first | rfl | (simp; done) | (simp [*]; done)), H', ⟨Nat.le_refl _⟩, ⟨by (with_reducible repeat (first | apply Kd.R_alloc | apply Kd.R_drewN | apply Kd.R_drew)); exact HO_5.out⟩, ⟨by repeat (first | (with_reducible first | exact HB.out | apply below_alloc | apply pw_below_drewN | apply below_drew1) | exact HB.out)⟩⟩
        case round =>
          clear H'
          try clear c1
          try clear p2
          try clear c4
          try clear c4b0
          try clear c4b1
          try clear c5
          try clear c5b0
          try clear c5b1
          try clear c7
          try clear p2
          obtain ⟨x5_2, x27_2, rfl, HA, HK2, HO_5, HB⟩ := hrel
          cases gk with
          | zero => exact absurd HA.out (by simp [lookoutlaw10_DictcolLong.l0])
          | succ k2 =>
            have H := HA.out
            clear HA
            simp only [lookoutlaw10_DictcolLong.l0] at H
            by_cases c10 : x27_2 < (l1.length : Int)
            · rw [if_pos c10] at H
              have c10b0 : decide (x27_2 < (l1.length : Int)) = true := decide_eq_true c10
              clear c10
              by_cases c11 : 0 ≤ x27_2
              · rw [if_pos c11] at H
                have c11b0 : decide (0 ≤ x27_2) = true := decide_eq_true c11
                clear c11
                by_cases c12 : x27_2 < (l1.length : Int)
                · rw [if_pos c12] at H
                  have c12b0 : decide (x27_2 < (l1.length : Int)) = true := decide_eq_true c12
                  clear c12
                  have H' := Aside0.mk H
                  clear H
                  have p456 : 0 ≤ (x27_2 : Int) := of_decide_eq_true (by first | (with_reducible assumption) | assumption)
                  have q456 : x27_2 < (l1.length : Int) := of_decide_eq_true (by first | (with_reducible assumption) | assumption)
                  obtain ⟨ad456, e456, hx456_0⟩ := Kd.at_int HR1.out x27_2 p456 q456
                  cases e456
                  replace hx456_0 := (HB.out.cell (World.block_lt_of_cell? w _ hx456_0)).trans hx456_0
                  replace p456 := eq_true p456
                  replace q456 := eq_true q456
                  go_wp2
                  go_loopg [5, 35] k2 (fun kq v5 v35 w' => ∃ (x5_3 : List ByteArray) (x35_3 : Int), v35 = .int .i64 x35_3 ∧ Aside0 (lookoutlaw10_DictcolLong.l1 kq l0 x5_3 x27_2 l1 (l1.length : Int) x27_2 (Int.tmod (wrap64 (rd l1 x27_2)) 2101) x35_3 = some r) ∧ Aside0 (kq ≤ k2) ∧ Aside0 (Kd.R Kd.string 9 w' w.heap.size (fun _ => True) v5 x5_3) ∧ Aside0 (Below w.heap.size w w'))
                  case atStart => exact ⟨(x5_2), (0), (by first | rfl | (simp; done) | (simp [*]; done)), H', ⟨Nat.le_refl _⟩, ⟨by (with_reducible repeat (first | apply Kd.R_alloc | apply Kd.R_drewN | apply Kd.R_drew)); exact HO_5.out⟩, ⟨by repeat (first | (with_reducible first | exact HB.out | apply below_alloc | apply pw_below_drewN | apply below_drew1) | exact HB.out)⟩⟩
                  case round =>
                    clear H'
                    try clear c1
                    try clear p2
                    try clear c4
                    try clear c4b0
                    try clear c4b1
                    try clear p4
                    try clear q4
                    try clear hx4
                    try clear c5
                    try clear c5b0
                    try clear c5b1
                    try clear p6
                    try clear c7
                    try clear c10
                    try clear c10b0
                    try clear c11
                    try clear c11b0
                    try clear c12
                    try clear c12b0
                    try clear hx456_0
                    try clear p2
                    try clear p456
                    try clear q456
                    obtain ⟨x5_3, x35_3, rfl, HA, HK3, HO_5, HB⟩ := hrel
                    cases gk with
                    | zero => exact absurd HA.out (by simp [lookoutlaw10_DictcolLong.l1])
                    | succ k3 =>
                      have H := HA.out
                      clear HA
                      simp only [lookoutlaw10_DictcolLong.l1] at H
                      by_cases c13 : x35_3 < (Int.tmod (wrap64 (rd l1 x27_2)) 2101)
                      · rw [if_pos c13] at H
                        have c13b0 : decide (x35_3 < (Int.tmod (wrap64 (rd l1 x27_2)) 2101)) = true := decide_eq_true c13
                        clear c13
                        by_cases c14 : (l0.length : Int) > 0
                        · rw [if_pos c14] at H
                          have c14b0 : decide (0 < (l0.length : Int)) = true := decide_eq_true c14
                          have c14b1 : decide (0 < l0.length) = true := decide_eq_true (by omega)
                          clear c14
                          by_cases c15 : (x5_3.length : Int) < 2100
                          · rw [if_pos c15] at H
                            have c15b0 : decide ((x5_3.length : Int) < 2100) = true := decide_eq_true c15
                            have c15b1 : decide (x5_3.length < 2100) = true := decide_eq_true (by omega)
                            clear c15
                            by_cases c16 : (l0.length : Int) = 0
                            · rw [if_pos c16] at H
                              exact absurd H (by simp)
                            · rw [if_neg c16] at H
                              have c16b0 : ((l0.length : Int) == 0) = false := beq_eq_false_iff_ne.mpr c16
                              have c16b1 : ((l0.length : Int) != 0) = true := bne_iff_ne.mpr c16
                              have c16b2 : ¬ (l0 = []) := fun h_ => c16 (by rw [h_]; rfl)
                              obtain ⟨ji17, hji17⟩ : ∃ j_ : Int, (Int.tmod x27_2 (l0.length : Int)) = j_ := ⟨_, rfl⟩
                              replace H : (if 0 ≤ (ji17) then (if (ji17) < (l0.length : Int) then (if x5_3.length < 8796093022208 then (lookoutlaw10_DictcolLong.l1 k3 l0 (x5_3 ++ [rdOf ByteArray.empty l0 (ji17)]) x27_2 l1 (l1.length : Int) x27_2 (Int.tmod (wrap64 (rd l1 x27_2)) 2101) (wrap64 (x35_3 + 1))) else (none)) else (none)) else (none)) = some r := by first | (rw [hji17] at H; exact H) | (simp only [hji17] at H ⊢; exact H)
                              by_cases c18 : 0 ≤ (ji17)
                              · rw [if_pos c18] at H
                                have c18b0 : decide (0 ≤ (ji17)) = true := decide_eq_true c18
                                clear c18
                                by_cases c19 : (ji17) < (l0.length : Int)
                                · rw [if_pos c19] at H
                                  have c19b0 : decide ((ji17) < (l0.length : Int)) = true := decide_eq_true c19
                                  clear c19
                                  by_cases c20 : x5_3.length < 8796093022208
                                  · rw [if_pos c20] at H
                                    have LMc20 := Aside0.mk c20
                                    clear c20
                                    obtain ⟨y458, hy458⟩ : ∃ y_ : List ByteArray, y_ = (x5_3 ++ [rdOf ByteArray.empty l0 (ji17)]) := ⟨_, rfl⟩
                                    replace H : (lookoutlaw10_DictcolLong.l1 k3 l0 y458 x27_2 l1 (l1.length : Int) x27_2 (Int.tmod (wrap64 (rd l1 x27_2)) 2101) (wrap64 (x35_3 + 1))) = some r := by first | (rw [hy458]; with_reducible exact H) | (have H2_ := (Option.bind_some _ _).symm.trans H; rw [hy458]; with_reducible exact H2_) | (have H2_ := (Option.bind_some _ _).symm.trans H; with_reducible exact H2_) | with_reducible exact H | (rw [hy458]; exact H) | exact H
                                    have Ny458 := Aside0.mk hy458
                                    clear hy458
                                    have H' := Aside0.mk H
                                    clear H
                                    obtain ⟨Ao21, co21, eo21⟩ := Kd.R_slice HO_5.out
                                    subst eo21
                                    have p457 : 0 ≤ ((ji17) : Int) := of_decide_eq_true (by first | (with_reducible assumption) | assumption)
                                    have q457 : (ji17) < (l0.length : Int) := of_decide_eq_true (by first | (with_reducible assumption) | assumption)
                                    obtain ⟨ad457, e457, hx457_0⟩ := Kd.at_string HR0.out (ji17) p457 q457
                                    cases e457
                                    replace hx457_0 := (HB.out.cell (World.block_lt_of_cell? w _ hx457_0)).trans hx457_0
                                    replace p457 := eq_true p457
                                    replace q457 := eq_true q457
                                    go_wp2_with (first | ((with_reducible refine gate_builtin (b := .append) (xs := #[.tmp 45, .tmp 53]) rfl ?_); (try (refine gate_guard (by rfl) ?_; dsimp only)); at_builtin; refine Kd.R_append Kd.string (w0 := w) w.heap.size rfl (.tmp 45) (.tmp 53) 22 9 (.string ⟨#[]⟩) 16 rfl Try.underlying22 info9 rfl (by decide) (by omega) (.slice Ao21 x5_3.length co21) x5_3 (rdOf ByteArray.empty l0 (ji17)) [.string (rdOf ByteArray.empty l0 (ji17))] (fun _ => True) (fun _ => False) rfl rfl ?aP (fun _ hk => hk.elim) ?aF ?aO ?aB ?aS ?aL ?_; (case aP => exact rfl); (case aB => exact (by repeat (first | (with_reducible first | exact HB.out | apply below_alloc | apply pw_below_drewN | apply below_drew1) | exact HB.out))); (case aF => exact (fun _ _ => trivial)); (case aO => exact (by (with_reducible repeat (first | apply Kd.R_alloc | apply Kd.R_drewN | apply Kd.R_drew)); exact HO_5.out)); (case aS => exact (below_size (by repeat (first | (with_reducible first | exact HB.out | apply below_alloc | apply pw_below_drewN | apply below_drew1) | exact HB.out)))); (case aL => have := LMc20.out; omega); intro v459 w22 ho hb hg hat; rw [← Ny458.out] at ho; have n0_ := Aside0.mk (hb); have n1_ := Aside0.mk (ho); clear HB; clear HO_5; have HB := n0_; have HO460 := n1_; clear n0_ n1_; clear ho hb hg hat))
                                    go_roundg k3
                                    case measure => have := HJ2.out; have := HK2.out; have := HK3.out; omega
                                    case rel => exact ⟨(y458), (wrap64 (x35_3 + 1)), (by first | rfl | (simp; done) | (simp [*]; done)), H', ⟨by have := HJ2.out; have := HK2.out; have := HK3.out; omega⟩, ⟨by (with_reducible repeat (first | apply Kd.R_alloc | apply Kd.R_drewN | apply Kd.R_drew)); exact HO460.out⟩, ⟨by repeat (first | (with_reducible first | exact HB.out | apply below_alloc | apply pw_below_drewN | apply below_drew1) | exact HB.out)⟩⟩
                                  · rw [if_neg c20] at H
                                    exact absurd H (by simp)
                                · rw [if_neg c19] at H
                                  exact absurd H (by simp)
                              · rw [if_neg c18] at H
                                exact absurd H (by simp)
                          · rw [if_neg c15] at H
                            have c15b0 : decide ((x5_3.length : Int) < 2100) = false := decide_eq_false c15
                            have c15b1 : decide (x5_3.length < 2100) = false := decide_eq_false (by omega)
                            clear c15
                            have H' := Aside0.mk H
                            clear H
                            obtain ⟨Ao23, co23, eo23⟩ := Kd.R_slice HO_5.out
                            subst eo23
                            go_wp2
                            go_roundg k3
                            case measure => have := HJ2.out; have := HK2.out; have := HK3.out; omega
                            case rel => exact ⟨(x5_3), (wrap64 (x35_3 + 1)), (by first | rfl | (simp; done) | (simp [*]; done)), H', ⟨by have := HJ2.out; have := HK2.out; have := HK3.out; omega⟩, ⟨by (with_reducible repeat (first | apply Kd.R_alloc | apply Kd.R_drewN | apply Kd.R_drew)); exact HO_5.out⟩, ⟨by repeat (first | (with_reducible first | exact HB.out | apply below_alloc | apply pw_below_drewN | apply below_drew1) | exact HB.out)⟩⟩
                        · rw [if_neg c14] at H
                          have c14b0 : decide (0 < (l0.length : Int)) = false := decide_eq_false c14
                          have c14b1 : decide (0 < l0.length) = false := decide_eq_false (by omega)
                          clear c14
                          have H' := Aside0.mk H
                          clear H
                          go_wp2
                          go_roundg k3
                          case measure => have := HJ2.out; have := HK2.out; have := HK3.out; omega
                          case rel => exact ⟨(x5_3), (wrap64 (x35_3 + 1)), (by first | rfl | (simp; done) | (simp [*]; done)), H', ⟨by have := HJ2.out; have := HK2.out; have := HK3.out; omega⟩, ⟨by (with_reducible repeat (first | apply Kd.R_alloc | apply Kd.R_drewN | apply Kd.R_drew)); exact HO_5.out⟩, ⟨by repeat (first | (with_reducible first | exact HB.out | apply below_alloc | apply pw_below_drewN | apply below_drew1) | exact HB.out)⟩⟩
                      · rw [if_neg c13] at H
                        have c13b0 : decide (x35_3 < (Int.tmod (wrap64 (rd l1 x27_2)) 2101)) = false := decide_eq_false c13
                        clear c13
                        have H' := Aside0.mk H
                        clear H
                        go_wp2
                        go_roundg k3
                        case measure => have := HJ2.out; have := HK2.out; have := HK3.out; omega
                        case rel => exact ⟨(x5_3), (wrap64 (x27_2 + 1)), (by first | rfl | (simp; done) | (simp [*]; done)), H', ⟨by have := HJ2.out; have := HK2.out; have := HK3.out; omega⟩, ⟨by (with_reducible repeat (first | apply Kd.R_alloc | apply Kd.R_drewN | apply Kd.R_drew)); exact HO_5.out⟩, ⟨by repeat (first | (with_reducible first | exact HB.out | apply below_alloc | apply pw_below_drewN | apply below_drew1) | exact HB.out)⟩⟩
                · rw [if_neg c12] at H
                  exact absurd H (by simp)
              · rw [if_neg c11] at H
                exact absurd H (by simp)
            · rw [if_neg c10] at H
              have c10b0 : decide (x27_2 < (l1.length : Int)) = false := decide_eq_false c10
              clear c10
              replace H := Option.bind_eq_some_iff.mp H
              obtain ⟨⟨t451, t452⟩, A240, H⟩ := H
              replace H : ((lookoutref10_Encode.f k2 x5_2).bind fun bt453 => (if t451.toList = bt453.1.toList then (if t452 = bt453.2 then ((lookoutlaw10_awake.f k2).bind fun t455 => (some t455)) else (none)) else (none))) = some r := H
              have A24 := Aside0.mk A240
              clear A240
              replace H := Option.bind_eq_some_iff.mp H
              obtain ⟨⟨t453, t454⟩, A250, H⟩ := H
              replace H : (if t451.toList = t453.toList then (if t452 = t454 then ((lookoutlaw10_awake.f k2).bind fun t455 => (some t455)) else (none)) else (none)) = some r := H
              have A25 := Aside0.mk A250
              clear A250
              by_cases c26 : t451.toList = t453.toList
              · rw [if_pos c26] at H
                have c26b0 : (t451.toList == t453.toList) = true := beq_iff_eq.mpr c26
                have c26b1 : (t451.toList != t453.toList) = false := bne_eq_false_iff_eq.mpr c26
                clear c26
                by_cases c27 : t452 = t454
                · rw [if_pos c27] at H
                  have c27b0 : (t452 == t454) = true := beq_iff_eq.mpr c27
                  have c27b1 : (t452 != t454) = false := bne_eq_false_iff_eq.mpr c27
                  clear c27
                  replace H := Option.bind_eq_some_iff.mp H
                  obtain ⟨t455, A280, H⟩ := H
                  replace H : (some t455) = some r := H
                  have A28 := Aside0.mk A280
                  clear A280
                  obtain rfl := Option.some.inj H
                  obtain ⟨Ao29, co29, eo29⟩ := Kd.R_slice HO_5.out
                  subst eo29
                  go_wp2_with (first | ((with_reducible refine gate_callee (f := 13) rfl ?_); refine goesL_ (some 59) rfl rfl Try.func13 (by kernel_rfl) rfl #[.slice Ao29 x5_2.length co29] rfl (by (try simp only [List.map_toArray, List.map_cons, List.map_nil]); first | done | rfl | (simp only [List.length_drop, List.length_take]; rfl)) ?_; (with_reducible refine (dictcol_Encode.calls k2 _ _ x5_2 t451 t452 _ ?side1 ?side2 A24.out).mono ?_); (case side1 => repeat (first | exact (Kd.R_reads' HO_5.out).2.2 | (with_reducible refine Kd.C_alloc ?_ _) | (with_reducible refine Kd.C_drewN ?_ _) | (with_reducible refine Kd.C_drew ?_))); (case side2 => exact (Kd.R_reads' HO_5.out).2.1); rintro e w30 ⟨rfl, hb⟩; refine ⟨_, rfl, ?_⟩; have n0_ := Aside0.mk (Kd.R_below (by (with_reducible repeat (first | apply Kd.R_alloc | apply Kd.R_drewN | apply Kd.R_drew)); exact HO_5.out) hb); have n1_ := Aside0.mk (below_step (by repeat (first | (with_reducible first | exact HB.out | apply below_alloc | apply pw_below_drewN | apply below_drew1) | exact HB.out)) hb); clear HO_5; clear HB; have HO_5 := n0_; have HB := n1_; clear n0_ n1_; (try clear hb); (try clear hb2); (try clear hk); (try clear hi)) | ((with_reducible refine gate_callee (f := 14) rfl ?_); refine goesL_ (some 64) rfl rfl Try.func14 (by kernel_rfl) rfl #[.slice Ao29 x5_2.length co29] rfl (by (try simp only [List.map_toArray, List.map_cons, List.map_nil]); first | done | rfl | (simp only [List.length_drop, List.length_take]; rfl)) ?_; (with_reducible refine (lookoutref10_Encode.calls k2 _ _ x5_2 t453 t454 _ ?side1 ?side2 A25.out).mono ?_); (case side1 => repeat (first | exact (Kd.R_reads' HO_5.out).2.2 | (with_reducible refine Kd.C_alloc ?_ _) | (with_reducible refine Kd.C_drewN ?_ _) | (with_reducible refine Kd.C_drew ?_))); (case side2 => exact (Kd.R_reads' HO_5.out).2.1); rintro e w31 ⟨rfl, hb⟩; refine ⟨_, rfl, ?_⟩; have n0_ := Aside0.mk (Kd.R_below (by (with_reducible repeat (first | apply Kd.R_alloc | apply Kd.R_drewN | apply Kd.R_drew)); exact HO_5.out) hb); have n1_ := Aside0.mk (below_step (by repeat (first | (with_reducible first | exact HB.out | apply below_alloc | apply pw_below_drewN | apply below_drew1) | exact HB.out)) hb); clear HO_5; clear HB; have HO_5 := n0_; have HB := n1_; clear n0_ n1_; (try clear hb); (try clear hb2); (try clear hk); (try clear hi)) | (go_at_call 12; (with_reducible refine (lookoutlaw10_awake.calls k2  t455 _ A28.out).mono ?_); rintro e w32 ⟨rfl, hb⟩; have n0_ := Aside0.mk (Kd.R_below (by (with_reducible repeat (first | apply Kd.R_alloc | apply Kd.R_drewN | apply Kd.R_drew)); exact HO_5.out) hb); have n1_ := Aside0.mk (below_step (by repeat (first | (with_reducible first | exact HB.out | apply below_alloc | apply pw_below_drewN | apply below_drew1) | exact HB.out)) hb); clear HO_5; clear HB; have HO_5 := n0_; have HB := n1_; clear n0_ n1_; (try clear hb); (try clear hb2); (try clear hk); (try clear hi)))
                  go_ret
                  exact ⟨by first | rfl | (simp [errW_none, errW_some] <;> rfl) | (simp [*, errW_none, errW_some] <;> rfl), by repeat (first | (with_reducible first | exact HB.out | apply below_alloc | apply pw_below_drewN | apply below_drew1) | exact HB.out)⟩
                · rw [if_neg c27] at H
                  exact absurd H (by simp)
              · rw [if_neg c26] at H
                exact absurd H (by simp)

/-- THE ONE PURE STATEMENT of lookoutlaw10_DictcolLong. -/
def lookoutlaw10_DictcolLong.Pure : Prop := ∀ (l0 : List ByteArray) (l1 : List Int), l0.length ≤ maxLen → l0.length * 16 ≤ 140737488351232 → (∀ x ∈ l0, x.size ≤ 140737488351232) → l1.length ≤ maxLen → l1.length * 2 ≤ 140737488351232 → (∀ x ∈ l1, (Lit.int .u16 x).wf = true) → ∃ k, lookoutlaw10_DictcolLong.f k l0 l1 = some true

end Go.Proofs.Ytfklecicddpcjaa.P
